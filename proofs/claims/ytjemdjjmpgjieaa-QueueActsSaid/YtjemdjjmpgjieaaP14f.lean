import Derived.Test.YtjemdjjmpgjieaaP16
import Derived.Test.YtjemdjjmpgjieaaS36
set_option linter.unusedVariables false
set_option linter.unusedSimpArgs false
/- A queue's entries: what is held of them, a heap of them as a list. -/
namespace Go.Sep
open Go
theorem FsOk.sub {w0 : World} {H T : List Chunk} {x : Fs} (h : FsOk w0 T x) (hs : SubL H T) : FsOk w0 H x := ⟨h.len, h.max, h.ok, hs.rd h.rd⟩
/-- A frame's key. -/
def keyF (f : Frm) : Int :=
  if f.ext = true then f.id / 2 ^ 18 * 2 ^ 23 + 6291456 + f.id % 2 ^ 18 * 2 ^ 3 + (if f.rtr = true then 4 else 0)
  else f.id * 2 ^ 23 + (if f.rtr = true then 4194304 else 0) + (if f.kind ≠ 1 then 1048576 else 0) + (if f.kind = 3 then 524288 else 0)
/-- An entry: its number, its frame and where that frame's bytes lie, its key. -/
structure En where
  no : Int
  fs : Fs
  key : Int
instance : Inhabited En := ⟨⟨0, default, 0⟩⟩
def EnC (e : En) : List Value := .int .i64 e.no :: (FsC e.fs ++ [.int .u64 e.key])
abbrev EnA (e : En) : Value := .agg (EnC e).toArray
abbrev ItA (no : Int) (x : Fs) : Value := .agg (.int .i64 no :: FsC x).toArray
instance : RowE EnC 13 := ⟨fun _ => rfl, fun r u hu => by
  simp only [EnC, FsC, FC, List.mem_cons, List.mem_append, List.mem_nil_iff, or_false] at hu
  rcases hu with rfl | (rfl | rfl | rfl | rfl | rfl | rfl | rfl | rfl | rfl | rfl | rfl) | rfl <;> rfl⟩
structure EnOk (w0 : World) (H : List Chunk) (e : En) : Prop where
  n0 : 0 ≤ e.no
  n1 : e.no ≤ 4611686018427387904
  fs : FsOk w0 H e.fs
  chk : chkF e.fs.f = 0
  key : e.key = keyF e.fs.f
def cmpI (x y : Int) : Int := if x < y then -1 else if y < x then 1 else 0
def cmpE (x y : En) : Int := if cmpI x.key y.key ≠ 0 then cmpI x.key y.key else cmpI x.no y.no
def ltE (x y : En) : Bool := decide (cmpE x y < 0)
def gE (L : List En) (i : Nat) : En := L.getD i default
def swapL (L : List En) (i j : Nat) : List En := (L.set i (gE L j)).set j (gE L i)
theorem swapL_len (L : List En) (i j : Nat) : (swapL L i j).length = L.length := by simp [swapL]
def upL (L : List En) (j : Nat) : List En := if h : j = 0 then L else if ltE (gE L j) (gE L ((j - 1) / 2)) = true then upL (swapL L ((j - 1) / 2) j) ((j - 1) / 2) else L
termination_by j
decreasing_by omega
def kid (L : List En) (i n : Nat) : Nat := if 2 * i + 2 < n ∧ ltE (gE L (2 * i + 2)) (gE L (2 * i + 1)) = true then 2 * i + 2 else 2 * i + 1
theorem kid_or (L : List En) (i n : Nat) : kid L i n = 2 * i + 1 ∨ (kid L i n = 2 * i + 2 ∧ 2 * i + 2 < n) := by
  unfold kid; split <;> omega
def downL (L : List En) (i n : Nat) : List En × Nat :=
  if h : n ≤ 2 * i + 1 then (L, i) else if ltE (gE L (kid L i n)) (gE L i) = true then downL (swapL L i (kid L i n)) (kid L i n) n else (L, i)
termination_by n - i
decreasing_by have := kid_or L i n; omega
theorem up_0 (L : List En) : upL L 0 = L := by rw [upL]; simp
theorem up_yes {L : List En} {j : Nat} (h : 0 < j) (h2 : ltE (gE L j) (gE L ((j - 1) / 2)) = true) : upL L j = upL (swapL L ((j - 1) / 2) j) ((j - 1) / 2) := by
  rw [upL, dif_neg (by omega), if_pos h2]
theorem up_no {L : List En} {j : Nat} (h2 : ¬ ltE (gE L j) (gE L ((j - 1) / 2)) = true) : upL L j = L := by
  rw [upL]
  by_cases h : j = 0
  · rw [dif_pos h]
  · rw [dif_neg h, if_neg h2]
theorem down_end {L : List En} {i n : Nat} (h : n ≤ 2 * i + 1) : downL L i n = (L, i) := by rw [downL, dif_pos h]
theorem down_yes {L : List En} {i n : Nat} (h : 2 * i + 1 < n) (h2 : ltE (gE L (kid L i n)) (gE L i) = true) : downL L i n = downL (swapL L i (kid L i n)) (kid L i n) n := by
  rw [downL, dif_neg (by omega), if_pos h2]
theorem down_no {L : List En} {i n : Nat} (h : 2 * i + 1 < n) (h2 : ¬ ltE (gE L (kid L i n)) (gE L i) = true) : downL L i n = (L, i) := by
  rw [downL, dif_neg (by omega), if_neg h2]
theorem kid_2 {L : List En} {i n : Nat} (h : 2 * i + 2 < n) (h2 : ltE (gE L (2 * i + 2)) (gE L (2 * i + 1)) = true) : kid L i n = 2 * i + 2 := if_pos ⟨h, h2⟩
theorem kid_1 {L : List En} {i n : Nat} (h2 : ¬ (2 * i + 2 < n ∧ ltE (gE L (2 * i + 2)) (gE L (2 * i + 1)) = true)) : kid L i n = 2 * i + 1 := if_neg h2
theorem down_stp {L : List En} {i n j : Nat} (h : 2 * i + 1 < n) (hk : kid L i n = j) (h2 : ltE (gE L j) (gE L i) = true) : downL L i n = downL (swapL L i j) j n := by
  subst hk; exact down_yes h h2
theorem down_nop {L : List En} {i n j : Nat} (h : 2 * i + 1 < n) (hk : kid L i n = j) (h2 : ¬ ltE (gE L j) (gE L i) = true) : downL L i n = (L, i) := by
  subst hk; exact down_no h h2
theorem upL_len (L : List En) (j : Nat) : (upL L j).length = L.length := by
  induction j using Nat.strongRecOn generalizing L with
  | ind j ih =>
    by_cases h0 : j = 0
    · subst h0; rw [up_0]
    · by_cases h : ltE (gE L j) (gE L ((j - 1) / 2)) = true
      · rw [up_yes (by omega) h, ih _ (by omega), swapL_len]
      · rw [up_no h]
theorem downL_len : ∀ (m : Nat) (L : List En) (i n : Nat), n - i ≤ m → (downL L i n).1.length = L.length := by
  intro m
  induction m with
  | zero => intro L i n h; rw [down_end (by omega)]
  | succ m ih =>
    intro L i n h
    by_cases h1 : n ≤ 2 * i + 1
    · rw [down_end h1]
    · by_cases h2 : ltE (gE L (kid L i n)) (gE L i) = true
      · have := kid_or L i n
        rw [down_yes (by omega) h2, ih _ _ _ (by omega), swapL_len]
      · rw [down_no (by omega) h2]
theorem gE_get {L : List En} {i : Nat} (h : i < L.length) : L[i]? = some (gE L i) := by
  unfold gE; rw [List.getD_eq_getElem?_getD, List.getElem?_eq_getElem h]; rfl
theorem swapL_mem {L : List En} {i j : Nat} {e : En} (hi : i < L.length) (hj : j < L.length) (h : e ∈ swapL L i j) : e ∈ L := by
  have m : ∀ k, k < L.length → gE L k ∈ L := fun k hk => List.mem_of_getElem? (gE_get hk)
  unfold swapL at h
  rcases List.mem_or_eq_of_mem_set h with h | rfl
  · rcases List.mem_or_eq_of_mem_set h with h | rfl
    · exact h
    · exact m j hj
  · exact m i hi
theorem upL_mem {e : En} (j : Nat) : ∀ L : List En, j < L.length → e ∈ upL L j → e ∈ L := by
  induction j using Nat.strongRecOn with
  | ind j ih =>
    intro L hj h
    by_cases h0 : j = 0
    · subst h0; rwa [up_0] at h
    · by_cases h1 : ltE (gE L j) (gE L ((j - 1) / 2)) = true
      · rw [up_yes (by omega) h1] at h
        exact swapL_mem (by omega) hj (ih _ (by omega) _ (by rw [swapL_len]; omega) h)
      · rwa [up_no h1] at h
theorem downL_mem {e : En} : ∀ (m : Nat) (L : List En) (i n : Nat), n - i ≤ m → n ≤ L.length → e ∈ (downL L i n).1 → e ∈ L := by
  intro m
  induction m with
  | zero => intro L i n h _ he; rwa [down_end (by omega)] at he
  | succ m ih =>
    intro L i n h hn he
    by_cases h1 : n ≤ 2 * i + 1
    · rwa [down_end h1] at he
    · by_cases h2 : ltE (gE L (kid L i n)) (gE L i) = true
      · have := kid_or L i n
        rw [down_yes (by omega) h2] at he
        exact swapL_mem (by omega) (by omega) (ih _ _ _ (by omega) (by rw [swapL_len]; exact hn) he)
      · rwa [down_no (by omega) h2] at he
def popL (L : List En) : List En := (downL (swapL L 0 (L.length - 1)) 0 (L.length - 1)).1
theorem popL_len (L : List En) : (popL L).length = L.length := by unfold popL; rw [downL_len _ _ _ _ (Nat.le_refl _), swapL_len]
def remL (L : List En) (i : Nat) : List En :=
  if L.length - 1 = i then L
  else if i < (downL (swapL L i (L.length - 1)) i (L.length - 1)).2 then (downL (swapL L i (L.length - 1)) i (L.length - 1)).1
  else upL (downL (swapL L i (L.length - 1)) i (L.length - 1)).1 i
theorem remL_len (L : List En) (i : Nat) : (remL L i).length = L.length := by
  unfold remL
  split
  · rfl
  · split
    · rw [downL_len _ _ _ _ (Nat.le_refl _), swapL_len]
    · rw [upL_len, downL_len _ _ _ _ (Nat.le_refl _), swapL_len]
theorem popL_mem {L : List En} {e : En} (h0 : 0 < L.length) (h : e ∈ popL L) : e ∈ L :=
  swapL_mem (i := 0) (j := L.length - 1) (by omega) (by omega) (downL_mem _ _ _ _ (Nat.le_refl _) (by rw [swapL_len]; omega) h)
theorem remL_mem {L : List En} {i : Nat} {e : En} (hi : i < L.length) (h : e ∈ remL L i) : e ∈ L := by
  unfold remL at h
  split at h
  · exact h
  · split at h
    · exact swapL_mem (i := i) (j := L.length - 1) hi (by omega) (downL_mem _ _ _ _ (Nat.le_refl _) (by rw [swapL_len]; omega) h)
    · exact swapL_mem (i := i) (j := L.length - 1) hi (by omega) (downL_mem _ _ _ _ (Nat.le_refl _) (by rw [swapL_len]; omega) (upL_mem _ _ (by rw [downL_len _ _ _ _ (Nat.le_refl _), swapL_len]; exact hi) h))
/-- A short frame. -/
def fz (z : Int) : Frm := ⟨1, z, false, false, false, false, false, 0, 0, 0, [z]⟩
theorem fz_ok {z : Int} (h0 : 0 ≤ z) (h1 : z ≤ 255) : FrOk (fz z) := ⟨show (_ : Int) ≤ 1 ∧ (1 : Int) ≤ _ by decide, ⟨h0, by show z ≤ _; omega⟩, show (0 : Int) ≤ 0 ∧ (0 : Int) ≤ 255 by decide, show (0 : Int) ≤ 0 ∧ (0 : Int) ≤ 255 by decide, show (0 : Int) ≤ 0 ∧ (0 : Int) ≤ 4294967295 by decide, Byte.one h0 h1⟩
theorem alive_1 (x : Fs) : upL ([] ++ [⟨0 + 1, x, keyF (fz 5)⟩]) 0 = [⟨0 + 1, x, keyF (fz 5)⟩] := up_0 _
theorem alive_2 (x y : Fs) : upL ([⟨0 + 1, x, keyF (fz 5)⟩] ++ [⟨0 + 1 + 1, y, keyF (fz 3)⟩]) (0 + 1) = [⟨0 + 1 + 1, y, keyF (fz 3)⟩, ⟨0 + 1, x, keyF (fz 5)⟩] := by
  rw [up_yes (by omega) rfl]; exact up_0 _
theorem alive_3 (x y z : Fs) : upL ([⟨0 + 1 + 1, y, keyF (fz 3)⟩, ⟨0 + 1, x, keyF (fz 5)⟩] ++ [⟨0 + 1 + 1 + 1, z, keyF (fz 5)⟩]) (0 + 1 + 1) = [⟨0 + 1 + 1, y, keyF (fz 3)⟩, ⟨0 + 1, x, keyF (fz 5)⟩, ⟨0 + 1 + 1 + 1, z, keyF (fz 5)⟩] :=
  up_no (fun h => by cases h)
theorem alive_4 (x y z : Fs) : (popL [⟨0 + 1 + 1, y, keyF (fz 3)⟩, ⟨0 + 1, x, keyF (fz 5)⟩, ⟨0 + 1 + 1 + 1, z, keyF (fz 5)⟩]).take (0 + 1 + 1 + 1 - 1) = [⟨0 + 1, x, keyF (fz 5)⟩, ⟨0 + 1 + 1 + 1, z, keyF (fz 5)⟩] := by
  unfold popL
  rw [down_stp (j := 1) (Nat.le_of_ble_eq_true rfl) rfl rfl, down_end (Nat.le_of_ble_eq_true rfl)]
  rfl
theorem alive_5 (x z : Fs) : (popL [⟨0 + 1, x, keyF (fz 5)⟩, ⟨0 + 1 + 1 + 1, z, keyF (fz 5)⟩]).take (0 + 1 + 1 + 1 - 1 - 1) = [⟨0 + 1 + 1 + 1, z, keyF (fz 5)⟩] := by
  unfold popL
  rw [down_end (Nat.le_of_ble_eq_true rfl)]
  rfl
end Go.Sep

/- The order of a queue's entries. Plain laws. -/
namespace Go.Sep
open Go
theorem cmpE_lt {x y : En} : cmpE x y < 0 ↔ (x.key < y.key ∨ (x.key = y.key ∧ x.no < y.no)) := by
  unfold cmpE cmpI
  split <;> split <;> (try split) <;> omega
theorem ltE_iff {x y : En} : ltE x y = true ↔ (x.key < y.key ∨ (x.key = y.key ∧ x.no < y.no)) := by
  unfold ltE
  rw [decide_eq_true_iff, cmpE_lt]
theorem ltE_not {x y : En} : ltE x y = false ↔ (y.key < x.key ∨ (x.key = y.key ∧ y.no ≤ x.no)) := by
  rw [← Bool.not_eq_true, ltE_iff]; omega
/-- Sorted: who comes later is not ahead. -/
def SortedE (L : List En) : Prop := ∀ i j, i < j → j < L.length → ltE (gE L j) (gE L i) = false
/-- An item that is handed out. -/
structure It where
  no : Int
  fs : Fs
instance : Inhabited It := ⟨⟨0, default⟩⟩
def ItC (i : It) : List Value := .int .i64 i.no :: FsC i.fs
instance : RowE ItC 12 := ⟨fun _ => rfl, fun r u hu => by
  simp only [ItC, FsC, FC, List.mem_cons, List.mem_nil_iff, or_false] at hu
  rcases hu with rfl | rfl | rfl | rfl | rfl | rfl | rfl | rfl | rfl | rfl | rfl | rfl <;> rfl⟩
def itP (i : It) : Int × Frm := (i.no, i.fs.f)
def enP (e : En) : Int × Frm := (e.no, e.fs.f)
theorem take_en {n k : Nat} {M : List En} (hk : k < n) (hn : n = M.length) : (M.take (k + 1)) = M.take k ++ [gE M k] := by
  subst hn
  rw [List.take_succ_eq_append_getElem hk]
  unfold gE
  rw [List.getD_eq_getElem?_getD, List.getElem?_eq_getElem hk]; rfl
theorem gE_in {L : List En} {i : Nat} (h : i < L.length) : gE L i ∈ L := List.mem_of_getElem? (gE_get h)
end Go.Sep
namespace Go.Sep
open Go
def leE (x y : En) : Prop := ltE y x = false
theorem leE_iff {x y : En} : leE x y ↔ (x.key < y.key ∨ (x.key = y.key ∧ x.no ≤ y.no)) := by
  unfold leE; rw [ltE_not]; omega
theorem leE.trans {x y z : En} (h1 : leE x y) (h2 : leE y z) : leE x z := by
  rw [leE_iff] at *; omega
theorem leE.refl (x : En) : leE x x := by rw [leE_iff]; omega
theorem leE.of_lt {x y : En} (h : ltE x y = true) : leE x y := by rw [leE_iff]; rw [ltE_iff] at h; omega
theorem leE.of_not {x y : En} (h : ¬ ltE x y = true) : leE y x := by unfold leE; simpa using h
theorem swap_get {L : List En} {i j : Nat} (hi : i < L.length) (hj : j < L.length) (k : Nat) : gE (swapL L i j) k = if k = j then gE L i else if k = i then gE L j else gE L k := by
  have g : ∀ (M : List En) (q : Nat), gE M q = (M[q]?).getD default := fun M q => by unfold gE; exact List.getD_eq_getElem?_getD
  rw [g]
  unfold swapL
  by_cases h1 : k = j
  · subst h1
    rw [if_pos rfl, List.getElem?_set_self (by simpa using hj)]
    rfl
  · rw [if_neg h1, List.getElem?_set_ne (fun e => h1 e.symm)]
    by_cases h2 : k = i
    · subst h2
      rw [if_pos rfl, List.getElem?_set_self hi]
      rfl
    · rw [if_neg h2, List.getElem?_set_ne (fun e => h2 e.symm), g]
theorem swap_j {L : List En} {i j : Nat} (hi : i < L.length) (hj : j < L.length) : gE (swapL L i j) j = gE L i := by rw [swap_get hi hj, if_pos rfl]
theorem swap_i {L : List En} {i j : Nat} (hi : i < L.length) (hj : j < L.length) (hne : i ≠ j) : gE (swapL L i j) i = gE L j := by rw [swap_get hi hj, if_neg hne, if_pos rfl]
theorem swap_o {L : List En} {i j k : Nat} (hi : i < L.length) (hj : j < L.length) (h1 : k ≠ i) (h2 : k ≠ j) : gE (swapL L i j) k = gE L k := by rw [swap_get hi hj, if_neg h2, if_neg h1]
theorem swapL_perm {L : List En} {i j : Nat} (hi : i < L.length) (hj : j < L.length) : (swapL L i j).Perm L := by
  classical
  rw [List.perm_iff_count]
  intro a
  unfold swapL
  rw [List.count_set (by simpa using hj), List.count_set hi]
  have ei : gE L i = L[i] := by have := gE_get hi; rw [List.getElem?_eq_getElem hi] at this; exact (Option.some.inj this).symm
  have ej : gE L j = L[j] := by have := gE_get hj; rw [List.getElem?_eq_getElem hj] at this; exact (Option.some.inj this).symm
  rw [ei, ej]
  have ci : L[i] == a → 0 < L.count a := fun h => List.count_pos_iff.2 (by rw [← beq_iff_eq.1 h]; exact List.getElem_mem hi)
  have cj : L[j] == a → 0 < L.count a := fun h => List.count_pos_iff.2 (by rw [← beq_iff_eq.1 h]; exact List.getElem_mem hj)
  rw [List.getElem_set]
  by_cases hij : i = j
  · subst hij
    simp only [if_true]
    by_cases h : L[i] == a
    · have := ci h; simp only [h, if_true]; omega
    · simp only [h]; simp
  · rw [if_neg hij]
    by_cases h1 : L[i] == a <;> by_cases h2 : L[j] == a <;> simp only [h1, h2, if_true, Bool.false_eq_true, if_false]
    · have := ci h1; omega
    · have := ci h1; omega
    · omega
    · omega
/-- The first n make a heap. -/
def HeapN (L : List En) (n : Nat) : Prop := ∀ c, 0 < c → c < n → leE (gE L ((c - 1) / 2)) (gE L c)
def UpInv (L : List En) (j n : Nat) : Prop := (∀ c, 0 < c → c < n → c ≠ j → leE (gE L ((c - 1) / 2)) (gE L c)) ∧ (∀ c, 0 < c → c < n → (c - 1) / 2 = j → 0 < j → leE (gE L ((j - 1) / 2)) (gE L c))
theorem up_heap (n : Nat) : ∀ (j : Nat) (L : List En), n ≤ L.length → j < n → UpInv L j n → HeapN (upL L j) n := by
  intro j
  induction j using Nat.strongRecOn with
  | ind j ih =>
    intro L hn hj ⟨h1, h2⟩
    by_cases h0 : j = 0
    · subst h0
      rw [up_0]
      exact fun c hc hcn => h1 c hc hcn (by omega)
    · by_cases hl : ltE (gE L j) (gE L ((j - 1) / 2)) = true
      · rw [up_yes (by omega) hl]
        have hp : (j - 1) / 2 < L.length := by omega
        have hjl : j < L.length := by omega
        refine ih _ (by omega) _ (by rw [swapL_len]; exact hn) (by omega) ⟨fun c hc hcn hne => ?_, fun c hc hcn hpc h0p => ?_⟩
        · by_cases hcj : c = j
          · subst hcj
            rw [swap_i hp hjl (by omega), swap_j hp hjl]
            exact leE.of_lt hl
          · rw [swap_o hp hjl hne hcj]
            by_cases hpj : (c - 1) / 2 = j
            · rw [hpj, swap_j hp hjl]
              exact h2 c hc hcn hpj (by omega)
            · by_cases hpp : (c - 1) / 2 = (j - 1) / 2
              · rw [hpp, swap_i hp hjl (by omega)]
                have := h1 c hc hcn hcj
                rw [hpp] at this
                exact (leE.of_lt hl).trans this
              · rw [swap_o hp hjl hpp hpj]
                exact h1 c hc hcn hcj
        · rw [swap_o hp hjl (by omega) (by omega)]
          have hpp := h1 ((j - 1) / 2) h0p (by omega) (by omega)
          by_cases hcj : c = j
          · subst hcj
            rw [swap_j hp hjl]; exact hpp
          · rw [swap_o hp hjl (by omega) hcj]
            have := h1 c hc hcn hcj
            rw [hpc] at this
            exact hpp.trans this
      · rw [up_no hl]
        intro c hc hcn
        by_cases hcj : c = j
        · subst hcj; exact leE.of_not hl
        · exact h1 c hc hcn hcj
theorem up_perm (j : Nat) : ∀ L : List En, j < L.length → (upL L j).Perm L := by
  induction j using Nat.strongRecOn with
  | ind j ih =>
    intro L hj
    by_cases h0 : j = 0
    · subst h0; rw [up_0]
    · by_cases hl : ltE (gE L j) (gE L ((j - 1) / 2)) = true
      · rw [up_yes (by omega) hl]
        exact (ih _ (by omega) _ (by rw [swapL_len]; omega)).trans (swapL_perm (by omega) hj)
      · rw [up_no hl]
theorem up_out (j : Nat) : ∀ (L : List En) (k : Nat), j < L.length → j < k → gE (upL L j) k = gE L k := by
  induction j using Nat.strongRecOn with
  | ind j ih =>
    intro L k hj hk
    by_cases h0 : j = 0
    · subst h0; rw [up_0]
    · by_cases hl : ltE (gE L j) (gE L ((j - 1) / 2)) = true
      · rw [up_yes (by omega) hl, ih _ (by omega) _ _ (by rw [swapL_len]; omega) (by omega), swap_o (by omega) hj (by omega) (by omega)]
      · rw [up_no hl]
theorem kid_le {L : List En} {i n c : Nat} (hc : c < n) (h : (c - 1) / 2 = i) (h0 : 0 < c) : leE (gE L (kid L i n)) (gE L c) := by
  rcases (by omega : c = 2 * i + 1 ∨ c = 2 * i + 2) with rfl | rfl
  · by_cases h : 2 * i + 2 < n ∧ ltE (gE L (2 * i + 2)) (gE L (2 * i + 1)) = true
    · rw [kid_2 h.1 h.2]; exact leE.of_lt h.2
    · rw [kid_1 h]; exact leE.refl _
  · by_cases h : 2 * i + 2 < n ∧ ltE (gE L (2 * i + 2)) (gE L (2 * i + 1)) = true
    · rw [kid_2 h.1 h.2]; exact leE.refl _
    · rw [kid_1 h]; exact leE.of_not (fun h2 => h ⟨hc, h2⟩)
def DownInv (L : List En) (i n : Nat) : Prop := (∀ c, 0 < c → c < n → (c - 1) / 2 ≠ i → leE (gE L ((c - 1) / 2)) (gE L c)) ∧ (∀ c, 0 < c → c < n → (c - 1) / 2 = i → 0 < i → leE (gE L ((i - 1) / 2)) (gE L c))
theorem down_step {L : List En} {i n : Nat} (hn : n ≤ L.length) (hk : 2 * i + 1 < n) (hl : ltE (gE L (kid L i n)) (gE L i) = true)
    (h1 : ∀ c, 0 < c → c < n → (c - 1) / 2 ≠ i → c ≠ i → leE (gE L ((c - 1) / 2)) (gE L c)) (h2 : ∀ c, 0 < c → c < n → (c - 1) / 2 = i → 0 < i → leE (gE L ((i - 1) / 2)) (gE L c)) : DownInv (swapL L i (kid L i n)) (kid L i n) n := by
  have hor := kid_or L i n
  have hkle := fun c (a : c < n) (b : (c - 1) / 2 = i) (d : 0 < c) => kid_le (L := L) a b d
  generalize kid L i n = j at *
  have hi : i < L.length := by omega
  have hj : j < L.length := by omega
  refine ⟨fun c hc hcn hpc => ?_, fun c hc hcn hpc h0 => ?_⟩
  · by_cases hcj : c = j
    · subst hcj
      rw [swap_j hi hj, show (c - 1) / 2 = i by omega, swap_i hi hj (by omega)]
      exact leE.of_lt hl
    · by_cases hpi : (c - 1) / 2 = i
      · rw [hpi, swap_i hi hj (by omega), swap_o hi hj (by omega) hcj]
        exact hkle c hcn hpi hc
      · by_cases hci : c = i
        · subst hci
          rw [swap_i hi hj (by omega), swap_o hi hj (by omega) (by omega)]
          exact h2 j (by omega) (by omega) (by omega) hc
        · rw [swap_o hi hj hci hcj, swap_o hi hj hpi hpc]
          exact h1 c hc hcn hpi hci
  · rw [show (j - 1) / 2 = i by omega, swap_i hi hj (by omega), swap_o hi hj (by omega) (by omega)]
    have := h1 c hc hcn (by omega) (by omega)
    rwa [hpc] at this
theorem down_heap : ∀ (m : Nat) (L : List En) (i n : Nat), n - i ≤ m → n ≤ L.length → DownInv L i n → HeapN (downL L i n).1 n := by
  intro m
  induction m with
  | zero =>
    intro L i n h hn ⟨h1, _⟩
    rw [down_end (by omega)]
    exact fun c hc hcn => h1 c hc hcn (by omega)
  | succ m ih =>
    intro L i n h hn ⟨h1, h2⟩
    by_cases he : n ≤ 2 * i + 1
    · rw [down_end he]
      exact fun c hc hcn => h1 c hc hcn (by omega)
    · by_cases hl : ltE (gE L (kid L i n)) (gE L i) = true
      · have hor := kid_or L i n
        rw [down_yes (by omega) hl]
        exact ih _ _ _ (by omega) (by rw [swapL_len]; exact hn) (down_step hn (by omega) hl (fun c a b d _ => h1 c a b d) h2)
      · rw [down_no (by omega) hl]
        intro c hc hcn
        by_cases hpc : (c - 1) / 2 = i
        · rw [hpc]; exact (leE.of_not hl).trans (kid_le hcn hpc hc)
        · exact h1 c hc hcn hpc
theorem down_perm : ∀ (m : Nat) (L : List En) (i n : Nat), n - i ≤ m → n ≤ L.length → (downL L i n).1.Perm L := by
  intro m
  induction m with
  | zero => intro L i n h hn; rw [down_end (by omega)]
  | succ m ih =>
    intro L i n h hn
    by_cases he : n ≤ 2 * i + 1
    · rw [down_end he]
    · by_cases hl : ltE (gE L (kid L i n)) (gE L i) = true
      · have hor := kid_or L i n
        rw [down_yes (by omega) hl]
        exact (ih _ _ _ (by omega) (by rw [swapL_len]; exact hn)).trans (swapL_perm (by omega) (by omega))
      · rw [down_no (by omega) hl]
theorem down_out : ∀ (m : Nat) (L : List En) (i n k : Nat), n - i ≤ m → n ≤ L.length → n ≤ k → gE (downL L i n).1 k = gE L k := by
  intro m
  induction m with
  | zero => intro L i n k h hn hk; rw [down_end (by omega)]
  | succ m ih =>
    intro L i n k h hn hk
    by_cases he : n ≤ 2 * i + 1
    · rw [down_end he]
    · by_cases hl : ltE (gE L (kid L i n)) (gE L i) = true
      · have hor := kid_or L i n
        rw [down_yes (by omega) hl, ih _ _ _ _ (by omega) (by rw [swapL_len]; exact hn) hk, swap_o (by omega) (by omega) (by omega) (by omega)]
      · rw [down_no (by omega) hl]
theorem down_mono : ∀ (m : Nat) (L : List En) (i n : Nat), n - i ≤ m → i ≤ (downL L i n).2 := by
  intro m
  induction m with
  | zero => intro L i n h; rw [down_end (by omega)]; exact Nat.le_refl _
  | succ m ih =>
    intro L i n h
    by_cases he : n ≤ 2 * i + 1
    · rw [down_end he]; exact Nat.le_refl _
    · by_cases hl : ltE (gE L (kid L i n)) (gE L i) = true
      · have hor := kid_or L i n
        rw [down_yes (by omega) hl]
        exact Nat.le_trans (by omega) (ih _ _ _ (by omega))
      · rw [down_no (by omega) hl]; exact Nat.le_refl _
theorem root_le {L : List En} {n : Nat} (h : HeapN L n) : ∀ k, k < n → leE (gE L 0) (gE L k) := by
  intro k
  induction k using Nat.strongRecOn with
  | ind k ih =>
    intro hk
    by_cases h0 : k = 0
    · subst h0; exact leE.refl _
    · exact (ih ((k - 1) / 2) (by omega) (by omega)).trans (h k (by omega) hk)
theorem HeapN.le {L : List En} {n m : Nat} (h : HeapN L n) (hm : m ≤ n) : HeapN L m := fun c hc hcm => h c hc (by omega)
theorem gE_take {L : List En} {k m : Nat} (h : k < m) : gE (L.take m) k = gE L k := by
  unfold gE; rw [List.getD_eq_getElem?_getD, List.getElem?_take, if_pos h, ← List.getD_eq_getElem?_getD]
theorem HeapN.take {L : List En} {m : Nat} (h : HeapN L m) : HeapN (L.take m) m := fun c hc hcm => by
  rw [gE_take (by omega), gE_take hcm]; exact h c hc hcm
theorem gE_app {L : List En} {e : En} {k : Nat} (h : k < L.length) : gE (L ++ [e]) k = gE L k := by
  unfold gE; rw [List.getD_eq_getElem?_getD, List.getElem?_append_left h, ← List.getD_eq_getElem?_getD]
/-- One more. -/
theorem push_heap {L : List En} {e : En} (h : HeapN L L.length) : HeapN (upL (L ++ [e]) L.length) (L.length + 1) := by
  refine up_heap _ _ _ (by simp) (by omega) ⟨fun c hc hcn hne => ?_, fun c hc hcn hpc h0 => by omega⟩
  rw [gE_app (by omega), gE_app (by omega)]
  exact h c hc (by omega)
theorem push_perm {L : List En} {e : En} : (upL (L ++ [e]) L.length).Perm (L ++ [e]) := up_perm _ _ (by simp)
/-- The first taken out. -/
theorem pop_heap {L : List En} (h0 : 0 < L.length) (h : HeapN L L.length) : HeapN ((popL L).take (L.length - 1)) (L.length - 1) := by
  refine HeapN.take ?_
  unfold popL
  refine down_heap _ _ _ _ (Nat.le_refl _) (by rw [swapL_len]; omega) ⟨fun c hc hcn hpc => ?_, fun c hc hcn hpc h00 => by omega⟩
  rw [swap_o h0 (by omega) (by omega) (by omega), swap_o h0 (by omega) (by omega) (by omega)]
  exact h c hc (by omega)
theorem pop_last {L : List En} (h0 : 0 < L.length) : gE (popL L) (L.length - 1) = gE L 0 := by
  unfold popL
  rw [down_out _ _ _ _ _ (Nat.le_refl _) (by rw [swapL_len]; omega) (Nat.le_refl _), swap_j h0 (by omega)]
theorem pop_perm {L : List En} (h0 : 0 < L.length) : (popL L).Perm L := by
  unfold popL
  exact (down_perm _ _ _ _ (Nat.le_refl _) (by rw [swapL_len]; omega)).trans (swapL_perm h0 (by omega))
/-- A list is its beginning and its last. -/
theorem take_last {L : List En} (h0 : 0 < L.length) : L = L.take (L.length - 1) ++ [gE L (L.length - 1)] := by
  have := take_en (n := L.length) (k := L.length - 1) (M := L) (by omega) rfl
  rw [← this, Nat.sub_add_cancel h0, List.take_length]
theorem pop_rest {L : List En} (h0 : 0 < L.length) : (gE L 0 :: (popL L).take (L.length - 1)).Perm L := by
  have hl := popL_len L
  have h1 := take_last (L := popL L) (by omega)
  rw [hl, pop_last h0] at h1
  have h2 := pop_perm h0
  rw [h1] at h2
  exact (List.perm_append_comm (l₁ := [gE L 0])).trans h2
/-- Any one taken out. -/
theorem rem_last {L : List En} {i : Nat} (hi : i < L.length) : gE (remL L i) (L.length - 1) = gE L i := by
  unfold remL
  split
  · rename_i h; rw [h]
  · have e : gE (downL (swapL L i (L.length - 1)) i (L.length - 1)).1 (L.length - 1) = gE L i := by
      rw [down_out _ _ _ _ _ (Nat.le_refl _) (by rw [swapL_len]; omega) (Nat.le_refl _), swap_j hi (by omega)]
    split
    · exact e
    · rw [up_out _ _ _ (by rw [downL_len _ _ _ _ (Nat.le_refl _), swapL_len]; exact hi) (by omega)]
      exact e
theorem rem_perm {L : List En} {i : Nat} (hi : i < L.length) : (remL L i).Perm L := by
  have h1 : (downL (swapL L i (L.length - 1)) i (L.length - 1)).1.Perm L := (down_perm _ _ _ _ (Nat.le_refl _) (by rw [swapL_len]; omega)).trans (swapL_perm hi (by omega))
  unfold remL
  split
  · exact .refl _
  · split
    · exact h1
    · exact (up_perm _ _ (by rw [downL_len _ _ _ _ (Nat.le_refl _), swapL_len]; exact hi)).trans h1
theorem rem_heap {L : List En} {i : Nat} (hi : i < L.length) (h : HeapN L L.length) : HeapN ((remL L i).take (L.length - 1)) (L.length - 1) := by
  refine HeapN.take ?_
  unfold remL
  split
  · exact h.le (by omega)
  · rename_i hne
    have hm : L.length - 1 < L.length := by omega
    have o : ∀ k, k ≠ i → k < L.length - 1 → gE (swapL L i (L.length - 1)) k = gE L k := fun k h1 h2 => swap_o hi hm h1 (by omega)
    have h1 : ∀ c, 0 < c → c < L.length - 1 → (c - 1) / 2 ≠ i → c ≠ i → leE (gE (swapL L i (L.length - 1)) ((c - 1) / 2)) (gE (swapL L i (L.length - 1)) c) := fun c hc hcn hpc hci => by
      rw [o _ hpc (by omega), o _ hci hcn]; exact h c hc (by omega)
    have h2 : ∀ c, 0 < c → c < L.length - 1 → (c - 1) / 2 = i → 0 < i → leE (gE (swapL L i (L.length - 1)) ((i - 1) / 2)) (gE (swapL L i (L.length - 1)) c) := fun c hc hcn hpc h0 => by
      rw [o _ (by omega) (by omega), o _ (by omega) hcn]
      have a := h i h0 hi
      have b := h c hc (by omega)
      rw [hpc] at b
      exact a.trans b
    have hlen : L.length - 1 ≤ (swapL L i (L.length - 1)).length := by rw [swapL_len]; omega
    have hup : UpInv (swapL L i (L.length - 1)) i (L.length - 1) → HeapN (upL (swapL L i (L.length - 1)) i) (L.length - 1) := fun hu => up_heap _ _ _ hlen (by omega) hu
    by_cases he : L.length - 1 ≤ 2 * i + 1
    · rw [down_end he, if_neg (Nat.lt_irrefl i)]
      exact hup ⟨fun c hc hcn hci => h1 c hc hcn (by omega) hci, h2⟩
    · by_cases hl : ltE (gE (swapL L i (L.length - 1)) (kid (swapL L i (L.length - 1)) i (L.length - 1))) (gE (swapL L i (L.length - 1)) i) = true
      · have hor := kid_or (swapL L i (L.length - 1)) i (L.length - 1)
        have hst := down_step hlen (by omega) hl h1 h2
        rw [down_yes (by omega) hl, if_pos (Nat.lt_of_lt_of_le (by omega : i < kid (swapL L i (L.length - 1)) i (L.length - 1)) (down_mono _ _ _ _ (Nat.le_refl _)))]
        exact down_heap _ _ _ _ (Nat.le_refl _) (by rw [swapL_len]; exact hlen) hst
      · rw [down_no (by omega) hl, if_neg (Nat.lt_irrefl i)]
        refine hup ⟨fun c hc hcn hci => ?_, h2⟩
        by_cases hpc : (c - 1) / 2 = i
        · rw [hpc]; exact (leE.of_not hl).trans (kid_le hcn hpc hc)
        · exact h1 c hc hcn hpc hci
theorem rem_rest {L : List En} {i : Nat} (hi : i < L.length) : (gE L i :: (remL L i).take (L.length - 1)).Perm L := by
  have hl := remL_len L i
  have h1 := take_last (L := remL L i) (by omega)
  rw [hl, rem_last hi] at h1
  have h2 := rem_perm hi
  rw [h1] at h2
  exact (List.perm_append_comm (l₁ := [gE L i])).trans h2
end Go.Sep

namespace Go.Sep
open Go
structure QI (w0 : World) (L : List En) (last : Int) (G : List Chunk) : Prop where
  heap : HeapN L L.length
  nd : (L.map (·.no)).Nodup
  ok : ∀ e ∈ L, 1 ≤ e.no ∧ e.no ≤ last ∧ e.key = keyF e.fs.f ∧ chkF e.fs.f = 0 ∧ FsOk w0 G e.fs
theorem QI.nil {w0 : World} {last : Int} {G : List Chunk} : QI w0 [] last G := ⟨fun c h1 h2 => by simp at h2, .nil, fun e h => by cases h⟩
theorem QI.fs {w0 : World} {L : List En} {last : Int} {G : List Chunk} (h : QI w0 L last G) : ∀ e ∈ L, FsOk w0 G e.fs := fun e he => (h.ok e he).2.2.2.2
theorem no_inj {L : List En} (h : (L.map (·.no)).Nodup) {x y : En} (hx : x ∈ L) (hy : y ∈ L) (e : x.no = y.no) : x = y := by
  induction L with
  | nil => cases hx
  | cons a l ih =>
    rw [List.map_cons, List.nodup_cons] at h
    rcases List.mem_cons.1 hx with h1 | h1
    · rcases List.mem_cons.1 hy with h2 | h2
      · rw [h1, h2]
      · exact absurd (show a.no ∈ l.map (·.no) from List.mem_map.2 ⟨y, h2, by rw [← e, h1]⟩) h.1
    · rcases List.mem_cons.1 hy with h2 | h2
      · exact absurd (show a.no ∈ l.map (·.no) from List.mem_map.2 ⟨x, h1, by rw [e, h2]⟩) h.1
      · exact ih h.2 h1 h2
theorem perm_nd {A B : List En} (h : A.Perm B) (hn : (B.map (·.no)).Nodup) : (A.map (·.no)).Nodup := (h.map _).nodup_iff.2 hn
theorem QI.put {w0 : World} {x : Fs} {L L' : List En} {D G : List Chunk} {last last' er : Int} {n n' : Nat} {room no : Int} (h : QI w0 L last G) (hl : 0 ≤ last) (hn : n = L.length)
    (hlin : (chkF x.f ≠ 0 ∧ no = 0 ∧ er = 2 ∧ n' = n ∧ last' = last) ∨ (chkF x.f = 0 ∧ room ≤ n ∧ no = 0 ∧ er = 8 ∧ n' = n ∧ last' = last) ∨ (chkF x.f = 0 ∧ n < room ∧ no = last + 1 ∧ er = 0 ∧ n' = n + 1 ∧ last' = last + 1))
    (hL : (er ≠ 0 ∧ L' = L ∧ D = []) ∨ (er = 0 ∧ ∃ y : Fs, y.f = x.f ∧ FsOk w0 D y ∧ L' = upL (L ++ [⟨last + 1, y, keyF x.f⟩]) n)) : QI w0 L' last' (D ++ G) := by
  rcases hL with ⟨he, rfl, rfl⟩ | ⟨he, y, hyf, hy, rfl⟩
  · have : last' = last := by omega
    subst this; exact h
  · have hc : chkF x.f = 0 := by omega
    have hla : last' = last + 1 := by omega
    subst hla hn
    have hp := push_perm (L := L) (e := ⟨last + 1, y, keyF x.f⟩)
    refine ⟨by rw [upL_len]; simpa using push_heap h.heap, perm_nd hp ?_, fun e he => ?_⟩
    · rw [List.map_append, List.nodup_append]
      refine ⟨h.nd, by simp, fun a ha b hb => ?_⟩
      obtain ⟨q, hq, rfl⟩ := List.mem_map.1 ha
      have : b = last + 1 := by simpa using hb
      have := (h.ok q hq).2.1
      omega
    · rcases List.mem_append.1 (hp.mem_iff.1 he) with h1 | h1
      · obtain ⟨a, b, c, d, e5⟩ := h.ok e h1
        exact ⟨a, by omega, c, d, e5.app⟩
      · rw [List.mem_singleton.1 h1]
        exact ⟨by show 1 ≤ last + 1; omega, Int.le_refl _, by show keyF x.f = keyF y.f; rw [hyf], by show chkF y.f = 0; rw [hyf]; exact hc, hy.appr⟩
theorem QI.sub {w0 : World} {L M : List En} {last : Int} {G : List Chunk} (h : QI w0 L last G) (x : En) (hp : (x :: M).Perm L) (hh : HeapN M M.length) : QI w0 M last G := by
  have hn := perm_nd hp h.nd
  rw [List.map_cons, List.nodup_cons] at hn
  exact ⟨hh, hn.2, fun e he => h.ok e (hp.mem_iff.1 (List.mem_cons_of_mem _ he))⟩
theorem QI.pop {w0 : World} {L : List En} {last : Int} {G : List Chunk} (h : QI w0 L last G) (h0 : 0 < L.length) : QI w0 ((popL L).take (L.length - 1)) last G :=
  h.sub (gE L 0) (pop_rest h0) (by rw [List.length_take, popL_len, Nat.min_eq_left (by omega)]; exact pop_heap h0 h.heap)
theorem QI.rem {w0 : World} {L : List En} {last : Int} {G : List Chunk} (h : QI w0 L last G) {i : Nat} (hi : i < L.length) : QI w0 ((remL L i).take (L.length - 1)) last G :=
  h.sub (gE L i) (rem_rest hi) (by rw [List.length_take, remL_len, Nat.min_eq_left (by omega)]; exact rem_heap hi h.heap)
theorem sorted_pair {L : List En} (h : SortedE L) : L.Pairwise leE := by
  rw [List.pairwise_iff_getElem]
  intro i j hi hj hij
  have := h i j hij hj
  have e : ∀ k (hk : k < L.length), gE L k = L[k] := fun k hk => by have := gE_get hk; rw [List.getElem?_eq_getElem hk] at this; exact (Option.some.inj this).symm
  rw [e i hi, e j hj] at this
  exact this
theorem leE.anti {L : List En} (hn : (L.map (·.no)).Nodup) {x y : En} (hx : x ∈ L) (hy : y ∈ L) (h1 : leE x y) (h2 : leE y x) : x = y := by
  rw [leE_iff] at h1 h2
  exact no_inj hn hx hy (by omega)
/-- One order alone is sorted. -/
theorem sorted_one {A B : List En} (hn : (A.map (·.no)).Nodup) (ha : SortedE A) (hb : SortedE B) (hp : A.Perm B) : A = B :=
  List.Perm.eq_of_pairwise (le := leE) (fun _ _ h1 h2 a b => leE.anti hn h1 (hp.mem_iff.2 h2) a b) (sorted_pair ha) (sorted_pair hb) hp
theorem gE_drop {L : List En} {i k : Nat} : gE (L.drop i) k = gE L (i + k) := by
  unfold gE; rw [List.getD_eq_getElem?_getD, List.getElem?_drop, ← List.getD_eq_getElem?_getD]
/-- Who is taken out is the first in the order. -/
theorem first_is {L S : List En} (h : HeapN L L.length) (hn : (L.map (·.no)).Nodup) (hs : SortedE S) (hp : S.Perm L) (h0 : 0 < L.length) : gE S 0 = gE L 0 := by
  have hl := hp.length_eq
  have hm : gE L 0 ∈ S := hp.mem_iff.2 (gE_in h0)
  have hm0 : gE S 0 ∈ L := hp.mem_iff.1 (gE_in (by omega))
  obtain ⟨k, hk, he⟩ := List.getElem_of_mem hm
  obtain ⟨q, hq, he2⟩ := List.getElem_of_mem hm0
  have e1 : gE S k = gE L 0 := by have := gE_get hk; rw [List.getElem?_eq_getElem hk, he] at this; exact (Option.some.inj this).symm
  have e2 : gE L q = gE S 0 := by have := gE_get hq; rw [List.getElem?_eq_getElem hq, he2] at this; exact (Option.some.inj this).symm
  have a : leE (gE S 0) (gE L 0) := by
    rw [← e1]
    rcases Nat.eq_zero_or_pos k with h1 | h1
    · subst h1; exact leE.refl _
    · exact hs 0 k h1 hk
  have b : leE (gE L 0) (gE S 0) := by rw [← e2]; exact root_le h q hq
  exact leE.anti hn hm0 (gE_in h0) a b
theorem sorted_drop {S : List En} (h : SortedE S) (i : Nat) : SortedE (S.drop i) := fun a b hab hb => by
  rw [List.length_drop] at hb
  rw [gE_drop, gE_drop]
  exact h _ _ (by omega) (by omega)
theorem drop_first {S : List En} {i : Nat} (h : i < S.length) : S.drop i = gE S i :: S.drop (i + 1) := by
  rw [List.drop_eq_getElem_cons h]
  have := gE_get h
  rw [List.getElem?_eq_getElem h] at this
  rw [Option.some.inj this]
theorem pop_next {L S : List En} {i : Nat} (h : HeapN L L.length) (hn : (L.map (·.no)).Nodup) (hs : SortedE S) (hp : L.Perm (S.drop i)) (hi : i < S.length) : gE L 0 = gE S i ∧ ((popL L).take (L.length - 1)).Perm (S.drop (i + 1)) := by
  have hl := hp.length_eq
  rw [List.length_drop] at hl
  have e : gE L 0 = gE S i := by
    have := first_is h hn (sorted_drop hs i) hp.symm (by omega)
    rw [gE_drop, Nat.add_zero] at this
    exact this.symm
  refine ⟨e, ?_⟩
  have h1 := (pop_rest (L := L) (by omega)).trans hp
  rw [drop_first hi, e] at h1
  exact List.Perm.cons_inv h1
theorem sorted_strict {S : List En} (hn : (S.map (·.no)).Nodup) (hs : SortedE S) {i j : Nat} (hij : i < j) (hj : j < S.length) : (gE S i).key < (gE S j).key ∨ ((gE S i).key = (gE S j).key ∧ (gE S i).no < (gE S j).no) := by
  have h1 : leE (gE S i) (gE S j) := hs i j hij hj
  rw [leE_iff] at h1
  have hne : (gE S i).no ≠ (gE S j).no := by
    intro e
    have hm := List.nodup_iff_pairwise_ne.1 hn
    rw [List.pairwise_iff_getElem] at hm
    have := hm i j (by simp; omega) (by simpa using hj) hij
    apply this
    have q : ∀ k (hk : k < S.length), gE S k = S[k] := fun k hk => by have := gE_get hk; rw [List.getElem?_eq_getElem hk] at this; exact (Option.some.inj this).symm
    rw [List.getElem_map, List.getElem_map, ← q i (by omega), ← q j hj]
    exact e
  omega
end Go.Sep

/- The reference's queue: keys as bits, a row in order. -/
namespace Go.Sep
open Go
theorem half {z : Int} {k : Nat} : z / 2 ^ (k + 1) = z / 2 ^ k / 2 := by
  rw [Int.ediv_ediv_of_nonneg (Int.le_of_lt (Int.pow_pos (by decide))), Int.pow_succ]
theorem bits_set {xs : List Int} {z : Int} {s k : Nat} (hk : k < s) (hl : xs.length = s) (h : xs.drop (s - k) = bitsS z k) : (xs.set (s - 1 - k) ((z / 2 ^ k) % 2)).drop (s - (k + 1)) = bitsS z (k + 1) := by
  have e : s - (k + 1) = s - 1 - k := by omega
  rw [e, bitsS, ← h]
  have hlt : s - 1 - k < xs.length := by omega
  rw [List.set_eq_take_append_cons_drop, if_pos hlt, List.drop_append_of_le_length (by rw [List.length_take]; omega), List.drop_of_length_le (by rw [List.length_take]; omega), List.nil_append, show s - 1 - k + 1 = s - k by omega]
theorem numS_scale : ∀ (l : List Int) (x : Int), numS x l = x * 2 ^ l.length + numS 0 l
  | [], x => by simp [numS]
  | b :: l, x => by
    rw [numS, numS, numS_scale l (2 * x + b), numS_scale l (2 * 0 + b), List.length_cons, Int.pow_succ]
    have : x * (2 ^ l.length * 2) = 2 * x * 2 ^ l.length := by rw [← Int.mul_assoc]; rw [Int.mul_comm, ← Int.mul_assoc]
    rw [this, Int.add_mul, Int.add_mul]
    omega
theorem numS_bits {x n : Int} {s : Nat} (hn : 0 ≤ n) (h : n < 2 ^ s) : numS x (bitsS n s) = x * 2 ^ s + n := by
  rw [numS_scale, num_bits hn h, bitsS_length]
theorem numS_zeros (x : Int) : ∀ n : Nat, numS x (List.replicate n 0) = x * 2 ^ n
  | 0 => by simp [numS]
  | n + 1 => by rw [List.replicate_succ, numS, numS_zeros _ n, Int.pow_succ, Int.add_zero, Int.mul_comm 2 x, Int.mul_assoc, Int.mul_comm 2]
def bI (b : Bool) : Int := if b = true then 1 else 0
theorem bI_01 (b : Bool) : 0 ≤ bI b ∧ bI b ≤ 1 := by cases b <;> decide
def keyXb (f : Frm) : List Int := ((bitsS (f.id / 2 ^ 18) 11 ++ [1, 1]) ++ bitsS (f.id % 2 ^ 18) 18) ++ [bI f.rtr, 0, 0]
def keyBb (f : Frm) : List Int := bitsS f.id 11 ++ [bI f.rtr, 0, bI (!decide (f.kind = 1)), bI (decide (f.kind = 3))]
theorem keyXb_len (f : Frm) : (keyXb f).length = 34 := by simp [keyXb, bitsS_length]
theorem keyBb_len (f : Frm) : (keyBb f).length = 15 := by simp [keyBb, bitsS_length]
theorem Bit.apnd {l m : List Int} (hl : Bit l) (hm : Bit m) : Bit (l ++ m) := bit_iff.2 fun x hx => (List.mem_append.1 hx).elim (bit_iff.1 hl x) (bit_iff.1 hm x)
theorem bit_lit {l : List Int} (h : ∀ x ∈ l, 0 ≤ x ∧ x ≤ 1) : Bit l := bit_iff.2 h
theorem keyXb_bit (f : Frm) : Bit (keyXb f) := by
  have := bI_01 f.rtr
  refine (((bitsS_bit _ _).apnd (bit_lit fun x hx => ?_)).apnd (bitsS_bit _ _)).apnd (bit_lit fun x hx => ?_)
  · simp at hx; omega
  · simp at hx; omega
theorem keyBb_bit (f : Frm) : Bit (keyBb f) := by
  have h1 := bI_01 f.rtr
  have h2 := bI_01 (!decide (f.kind = 1))
  have h3 := bI_01 (decide (f.kind = 3))
  refine (bitsS_bit _ _).apnd (bit_lit fun x hx => ?_)
  rw [List.mem_cons, List.mem_cons, List.mem_cons, List.mem_singleton] at hx
  omega
theorem keyX_num {f : Frm} (h0 : 0 ≤ f.id) (h1 : f.id < 536870912) (he : f.ext = true) : numS 0 (keyXb f) = keyF f := by
  unfold keyXb
  rw [numS_append, numS_append, numS_append, numS_bits (by omega) (by omega), numS_bits (by omega) (by omega)]
  unfold keyF
  rw [if_pos he]
  simp only [numS, bI]
  split <;> omega
theorem keyB_num {f : Frm} (h0 : 0 ≤ f.id) (h1 : f.id < 2048) (he : f.ext = false) : numS 0 (keyBb f ++ List.replicate 19 0) = keyF f := by
  unfold keyBb
  rw [numS_append, numS_append, numS_bits (by omega) (by omega), numS_zeros]
  unfold keyF
  rw [if_neg (by rw [he]; decide)]
  simp only [numS, bI]
  by_cases h1 : f.kind = 1 <;> by_cases h3 : f.kind = 3 <;> cases hr : f.rtr <;> simp [h1, h3] <;> omega
theorem pad_bit {f : Frm} (n : Nat) : Bit (keyBb f ++ List.replicate n 0) := (keyBb_bit f).apnd (bit_lit fun x hx => by have := List.eq_of_mem_replicate hx; omega)
theorem pad_step {l : List Int} {k : Nat} : (l ++ List.replicate k 0) ++ [0] = l ++ List.replicate (k + 1) (0 : Int) := by rw [List.append_assoc, List.replicate_succ']
end Go.Sep

/- A queue and the reference's. -/
namespace Go.Sep
open Go
structure QR (w0 : World) (L : List En) (last : Int) (G : List Chunk) (M : List It) : Prop where
  qi : QI w0 L last G
  srt : ∃ S : List En, S.Perm L ∧ SortedE S ∧ M.map itP = S.map enP
  ok : ∀ i ∈ M, FsOk w0 G i.fs
theorem QR.nil {w0 : World} {last : Int} {G : List Chunk} : QR w0 [] last G [] := ⟨QI.nil, ⟨[], .refl _, fun i j _ h => by simp at h, rfl⟩, fun i h => by cases h⟩
theorem QI.appl {w0 : World} {L : List En} {last : Int} {G : List Chunk} (h : QI w0 L last G) (D : List Chunk) : QI w0 L last (D ++ G) := ⟨h.heap, h.nd, fun e he => by
  obtain ⟨a, b, c, d, f⟩ := h.ok e he
  exact ⟨a, b, c, d, f.app⟩⟩
theorem QR.appl {w0 : World} {L : List En} {last : Int} {G : List Chunk} {M : List It} (h : QR w0 L last G M) (D : List Chunk) : QR w0 L last (D ++ G) M := ⟨h.qi.appl D, h.srt, fun i hi => (h.ok i hi).app⟩
theorem itq_get {out : List It} {i : Nat} (h : i < out.length) : out[i]? = some (out.getD i default) := by rw [List.getD_eq_getElem?_getD, List.getElem?_eq_getElem h]; rfl
theorem itq_map {out : List It} {S : List En} {i : Nat} (h : out.map itP = S.map enP) (hi : i < out.length) : (out.getD i default).no = (gE S i).no ∧ (out.getD i default).fs.f = (gE S i).fs.f := by
  have hl : out.length = S.length := by have := congrArg List.length h; simpa using this
  have := congrArg (fun l => l[i]?) h
  simp only [List.getElem?_map] at this
  rw [itq_get hi, gE_get (by omega)] at this
  have e := Option.some.inj this
  exact ⟨congrArg Prod.fst e, congrArg Prod.snd e⟩
theorem QR.len {w0 : World} {L : List En} {last : Int} {G : List Chunk} {M : List It} (h : QR w0 L last G M) : M.length = L.length := by
  obtain ⟨S, hp, _, he⟩ := h.srt
  have := congrArg List.length he
  simp only [List.length_map] at this
  rw [this, hp.length_eq]
theorem QR.chk {w0 : World} {L : List En} {last : Int} {G : List Chunk} {M : List It} (h : QR w0 L last G M) : ∀ i ∈ M, chkF i.fs.f = 0 := fun i hi => by
  obtain ⟨S, hp, _, he⟩ := h.srt
  have h1 : itP i ∈ S.map enP := by rw [← he]; exact List.mem_map.2 ⟨i, hi, rfl⟩
  obtain ⟨e, h2, h3⟩ := List.mem_map.1 h1
  have h4 := (h.qi.ok e (hp.mem_iff.1 h2)).2.2.2.1
  have h5 : e.fs.f = i.fs.f := congrArg Prod.snd h3
  rw [← h5]; exact h4
theorem QR.head {w0 : World} {L : List En} {last : Int} {G : List Chunk} {M : List It} (h : QR w0 L last G M) (h0 : 0 < L.length) : (gE L 0).no = (M.getD 0 default).no ∧ (gE L 0).fs.f = (M.getD 0 default).fs.f := by
  have hl := h.len
  obtain ⟨S, hp, hs, he⟩ := h.srt
  have h1 := itq_map he (i := 0) (by omega)
  rw [first_is h.qi.heap h.qi.nd hs hp h0] at h1
  exact ⟨h1.1.symm, h1.2.symm⟩
theorem QR.tail {w0 : World} {L : List En} {last : Int} {G : List Chunk} {M : List It} (h : QR w0 L last G M) (h0 : 0 < L.length) : QR w0 ((popL L).take (L.length - 1)) last G M.tail := by
  obtain ⟨S, hp, hs, he⟩ := h.srt
  have hl := hp.length_eq
  refine ⟨h.qi.pop h0, ⟨S.drop 1, ((pop_next (i := 0) h.qi.heap h.qi.nd hs hp.symm (by omega)).2).symm, sorted_drop hs 1, ?_⟩, fun i hi => h.ok i (List.mem_of_mem_tail hi)⟩
  rw [List.drop_one, List.map_tail, he, List.map_tail]
theorem nodup_it {M : List It} {S : List En} (he : M.map itP = S.map enP) (hn : (S.map (·.no)).Nodup) : (M.map (·.no)).Nodup := by
  have e1 : M.map (·.no) = (M.map itP).map Prod.fst := by rw [List.map_map]; rfl
  have e2 : S.map (·.no) = (S.map enP).map Prod.fst := by rw [List.map_map]; rfl
  rw [e1, he, ← e2]; exact hn
theorem dropq_it {M : List It} {i : Nat} (h : i < M.length) : M.drop i = M.getD i default :: M.drop (i + 1) := by
  rw [List.drop_eq_getElem_cons h, List.getD_eq_getElem?_getD, List.getElem?_eq_getElem h]; rfl
theorem filt_one {M : List It} (hnd : (M.map (·.no)).Nodup) {i : Nat} (hi : i < M.length) {K : Int} (hk : (M.getD i default).no = K) : M.filter (fun i => decide (i.no ≠ K)) = M.take i ++ M.drop (i + 1) := by
  have h1 : M = M.take i ++ (M.getD i default :: M.drop (i + 1)) := by rw [← dropq_it hi, List.take_append_drop]
  have h2 : ((M.take i ++ (M.getD i default :: M.drop (i + 1))).map (·.no)).Nodup := by rw [← h1]; exact hnd
  rw [List.map_append, List.nodup_append, List.map_cons, List.nodup_cons] at h2
  obtain ⟨_, ⟨h3, _⟩, h4⟩ := h2
  have h5 : ∀ x ∈ M.take i, x.no ≠ K := fun x hx => by
    have := h4 x.no (List.mem_map.2 ⟨x, hx, rfl⟩) (M.getD i default).no (List.mem_cons_self ..)
    rwa [hk] at this
  have h6 : ∀ x ∈ M.drop (i + 1), x.no ≠ K := fun x hx e => h3 (List.mem_map.2 ⟨x, hx, by rw [e, hk]⟩)
  conv => lhs; rw [h1]
  rw [List.filter_append, List.filter_cons, if_neg (by rw [decide_eq_true_iff]; exact fun c => c hk), List.filter_eq_self.2 (fun x hx => decide_eq_true (h5 x hx)), List.filter_eq_self.2 (fun x hx => decide_eq_true (h6 x hx))]
theorem pair_sortedQ {L : List En} (h : L.Pairwise leE) : SortedE L := fun i j hij hj => by
  rw [List.pairwise_iff_getElem] at h
  have e : ∀ k (hk : k < L.length), gE L k = L[k] := fun k hk => by have := gE_get hk; rw [List.getElem?_eq_getElem hk] at this; exact (Option.some.inj this).symm
  rw [e i (by omega), e j hj]
  exact h i j (by omega) hj hij
theorem QR.mem {w0 : World} {L : List En} {last : Int} {G : List Chunk} {M : List It} (h : QR w0 L last G M) {K : Int} : (∃ e ∈ L, e.no = K) ↔ ∃ i ∈ M, i.no = K := by
  obtain ⟨S, hp, _, he⟩ := h.srt
  constructor
  · rintro ⟨e, h1, h2⟩
    have h3 : enP e ∈ M.map itP := by rw [he]; exact List.mem_map.2 ⟨e, hp.mem_iff.2 h1, rfl⟩
    obtain ⟨i, h4, h5⟩ := List.mem_map.1 h3
    exact ⟨i, h4, (congrArg Prod.fst h5).trans h2⟩
  · rintro ⟨i, h1, h2⟩
    have h3 : itP i ∈ S.map enP := by rw [← he]; exact List.mem_map.2 ⟨i, h1, rfl⟩
    obtain ⟨e, h4, h5⟩ := List.mem_map.1 h3
    exact ⟨e, hp.mem_iff.1 h4, (congrArg Prod.fst h5).trans h2⟩
/-- One cancelled in both. -/
theorem QR.cancel {w0 : World} {L L2 : List En} {last : Int} {G : List Chunk} {M M2 : List It} (h : QR w0 L last G M) {K er er2 : Int} {n n2 : Nat} (hn : n = L.length)
    (h1 : n2 = L2.length ∧ n2 ≤ n ∧ QI w0 L2 last G ∧ (∀ e ∈ L2, e.no ≠ K) ∧ L2.Perm (L.filter (fun e => decide (e.no ≠ K))) ∧ ((er = 9 ∧ n2 = n ∧ ∀ e ∈ L, e.no ≠ K) ∨ (er = 0 ∧ n2 + 1 = n ∧ ∃ e ∈ L, e.no = K)))
    (h2 : (er2 = 9 ∧ M2 = M ∧ ∀ j, j < n → (M.getD j default).no ≠ K) ∨ (er2 = 0 ∧ ∃ i, i < n ∧ (M.getD i default).no = K ∧ M2 = M.take i ++ M.drop (i + 1))) : er = er2 ∧ QR w0 L2 last G M2 := by
  have hl := h.len
  obtain ⟨a1, a2, a3, a4, a5, a6⟩ := h1
  obtain ⟨S, hp, hs, he⟩ := h.srt
  have hsn := perm_nd hp h.qi.nd
  have hF : (S.filter (fun e => decide (e.no ≠ K))).Perm L2 := (hp.filter _).trans a5.symm
  have hSo : SortedE (S.filter (fun e => decide (e.no ≠ K))) := pair_sortedQ ((sorted_pair hs).sublist List.filter_sublist)
  have hM2 : M2 = M.filter (fun i => decide (i.no ≠ K)) := by
    rcases h2 with ⟨_, rfl, h3⟩ | ⟨_, i, hi, hk, rfl⟩
    · rw [List.filter_eq_self.2]
      intro x hx
      obtain ⟨j, hj, rfl⟩ := List.getElem_of_mem hx
      have := h3 j (by omega)
      rw [List.getD_eq_getElem?_getD, List.getElem?_eq_getElem hj] at this
      exact decide_eq_true this
    · exact (filt_one (nodup_it he hsn) (by omega) hk).symm
  refine ⟨?_, a3, ⟨_, hF, hSo, ?_⟩, fun i hi => h.ok i (by rw [hM2] at hi; exact (List.mem_filter.1 hi).1)⟩
  · rcases a6 with ⟨h3, _, h4⟩ | ⟨h3, _, h4⟩ <;> rcases h2 with ⟨h5, _, h6⟩ | ⟨h5, i, hi, hk, _⟩
    · rw [h3, h5]
    · exfalso
      obtain ⟨e, he1, he2⟩ := (h.mem (K := K)).2 ⟨_, List.mem_of_getElem? (itq_get (by omega)), hk⟩
      exact h4 e he1 he2
    · exfalso
      obtain ⟨i, hi, hk⟩ := (h.mem (K := K)).1 h4
      obtain ⟨j, hj, rfl⟩ := List.getElem_of_mem hi
      have := h6 j (by omega)
      rw [List.getD_eq_getElem?_getD, List.getElem?_eq_getElem hj] at this
      exact this hk
    · rw [h3, h5]
  · have e1 : (M.filter (fun i => decide (i.no ≠ K))).map itP = (M.map itP).filter (fun q => decide (q.1 ≠ K)) := by rw [List.filter_map]; rfl
    have e2 : (S.filter (fun e => decide (e.no ≠ K))).map enP = (S.map enP).filter (fun q => decide (q.1 ≠ K)) := by rw [List.filter_map]; rfl
    rw [hM2, e1, e2, he]
/-- One put into both. -/
theorem QR.put {w0 : World} {x : Fs} {L L' : List En} {D D2 G : List Chunk} {M M2 : List It} {last last' er er2 room no : Int} {n n' : Nat} (h : QR w0 L last G M) (hl : 0 ≤ last) (hn : n = L.length)
    (hlin : (chkF x.f ≠ 0 ∧ no = 0 ∧ er = 2 ∧ n' = n ∧ last' = last) ∨ (chkF x.f = 0 ∧ room ≤ n ∧ no = 0 ∧ er = 8 ∧ n' = n ∧ last' = last) ∨ (chkF x.f = 0 ∧ n < room ∧ no = last + 1 ∧ er = 0 ∧ n' = n + 1 ∧ last' = last + 1))
    (hL : (er ≠ 0 ∧ L' = L ∧ D = []) ∨ (er = 0 ∧ ∃ y : Fs, y.f = x.f ∧ FsOk w0 D y ∧ L' = upL (L ++ [⟨last + 1, y, keyF x.f⟩]) n)) (her : er = er2)
    (hM : (er2 ≠ 0 ∧ M2 = M ∧ D2 = []) ∨ (er2 = 0 ∧ ∃ (j : Nat) (x1 : Fs), j ≤ n ∧ x1.f = x.f ∧ FsOk w0 D2 x1 ∧ M2 = M.take j ++ [⟨last + 1, x1⟩] ++ M.drop j ∧ (∀ i, j ≤ i → i < n → keyF x.f < keyF (M.getD i default).fs.f) ∧ (j = 0 ∨ keyF (M.getD (j - 1) default).fs.f ≤ keyF x.f))) : QR w0 L' last' (D2 ++ (D ++ G)) M2 := by
  have hq := (h.qi.put hl hn hlin hL).appl D2
  have hlen := h.len
  obtain ⟨S, hp, hs, he⟩ := h.srt
  have hSl := hp.length_eq
  rcases hM with ⟨g1, rfl, rfl⟩ | ⟨g1, j, x1, hj, hxf, hx1, rfl, hk1, hk2⟩
  · have hL2 : L' = L := (hL.resolve_right (fun c => g1 (her ▸ c.1))).2.1
    subst hL2
    exact ⟨hq, ⟨S, hp, hs, he⟩, fun i hi => (h.ok i hi).app.app⟩
  · obtain ⟨_, y, hyf, hy, rfl⟩ := hL.resolve_left (by omega)
    subst hn
    have hkey : ∀ i, i < S.length → (gE S i).key = keyF (M.getD i default).fs.f := fun i hi => by
      have h1 := (h.qi.ok _ (hp.mem_iff.1 (gE_in hi))).2.2.1
      rw [h1, (itq_map he (i := i) (by omega)).2]
    have hS := List.take_append_drop j S
    have hps := sorted_pair hs
    rw [← hS, List.pairwise_append] at hps
    obtain ⟨p1, p2, p3⟩ := hps
    refine ⟨hq, ⟨S.take j ++ ([⟨last + 1, y, keyF x.f⟩] ++ S.drop j), ?_, ?_, ?_⟩, fun i hi => ?_⟩
    · refine List.Perm.trans ?_ push_perm.symm
      refine (List.perm_append_comm_assoc _ _ _).trans ?_
      rw [hS]
      exact (List.perm_append_comm).trans (hp.append_right _)
    · refine pair_sortedQ (List.pairwise_append.2 ⟨p1, List.pairwise_append.2 ⟨by simp, p2, fun a ha b hb => ?_⟩, fun a ha b hb => ?_⟩)
      · rw [List.mem_singleton.1 ha]
        obtain ⟨t, ht, rfl⟩ := List.getElem_of_mem hb
        rw [List.length_drop] at ht
        rw [List.getElem_drop]
        have h1 := hk1 (j + t) (by omega) (by omega)
        rw [← hkey _ (by omega)] at h1
        have h2 := gE_get (L := S) (i := j + t) (by omega)
        rw [List.getElem?_eq_getElem (by omega)] at h2
        rw [Option.some.inj h2, leE_iff]
        exact .inl h1
      · rcases List.mem_append.1 hb with hb | hb
        · rw [List.mem_singleton.1 hb, leE_iff]
          obtain ⟨t, ht, rfl⟩ := List.getElem_of_mem ha
          rw [List.length_take] at ht
          rw [List.getElem_take]
          have hj0 : j ≠ 0 := by omega
          have h1 := hk2.resolve_left hj0
          rw [← hkey _ (by omega)] at h1
          have h2 := gE_get (L := S) (i := t) (by omega)
          rw [List.getElem?_eq_getElem (by omega)] at h2
          rw [Option.some.inj h2]
          have h3 : leE (gE S t) (gE S (j - 1)) := by
            rcases Nat.lt_or_ge t (j - 1) with h4 | h4
            · exact hs t (j - 1) h4 (by omega)
            · obtain rfl : t = j - 1 := by omega
              exact leE.refl _
          rw [leE_iff] at h3
          have h5 := (h.qi.ok _ (hp.mem_iff.1 (gE_in (L := S) (i := t) (by omega)))).2.1
          show (gE S t).key < keyF x.f ∨ ((gE S t).key = keyF x.f ∧ (gE S t).no ≤ last + 1)
          omega
        · exact p3 a ha b hb
    · rw [List.append_assoc, List.map_append, List.map_append, List.map_append, List.map_append, List.map_take, List.map_drop, he, ← List.map_take, ← List.map_drop]
      have e1 : [(⟨last + 1, x1⟩ : It)].map itP = [(⟨last + 1, y, keyF x.f⟩ : En)].map enP := by simp [itP, enP, hxf, hyf]
      rw [e1]
    · rcases List.mem_append.1 hi with hi | hi
      · rcases List.mem_append.1 hi with hi | hi
        · exact (h.ok i (List.mem_of_mem_take hi)).app.app
        · rw [List.mem_singleton.1 hi]; exact hx1.appr
      · exact (h.ok i (List.mem_of_mem_drop hi)).app.app
theorem QR.all {w0 : World} {L S2 : List En} {last : Int} {G : List Chunk} {M out : List It} (h : QR w0 L last G M) (hp2 : S2.Perm L) (hs2 : SortedE S2) (ho : out.map itP = S2.map enP) : out.map itP = M.map itP := by
  obtain ⟨S, hp, hs, he⟩ := h.srt
  rw [ho, he, sorted_one (perm_nd hp2 h.qi.nd) hs2 hs (hp2.trans hp.symm)]
end Go.Sep
