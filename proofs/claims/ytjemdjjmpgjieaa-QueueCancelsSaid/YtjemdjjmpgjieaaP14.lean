/- A queue's entries: what is held of them, a heap of them as a list. -/
import Derived.Test.YtjemdjjmpgjieaaP16
import Derived.Test.YtjemdjjmpgjieaaS35
set_option linter.unusedVariables false
set_option linter.unusedSimpArgs false
namespace Go.Sep
open Go
theorem FsOk.sub {w0 : World} {H T : List Chunk} {x : Fs} (h : FsOk w0 T x) (hs : SubL H T) : FsOk w0 H x := ⟨h.len, h.max, h.ok, hs.rd h.rd⟩
/-- A frame's key. -/
def keyF (f : Frm) : Int :=
  if f.ext = true then f.id / 2 ^ 18 * 2 ^ 23 + 6291456 + f.id % 2 ^ 18 * 2 ^ 3 + (if f.rtr = true then 4 else 0)
  else f.id * 2 ^ 23 + (if f.rtr = true then 4194304 else 0) + (if f.kind ≠ 1 then 1048576 else 0) + (if f.kind = 3 then 524288 else 0)
/-- An entry: its number, its frame and where that frame's bytes lie, its key. -/
structure En where
  no : Int
  fs : Fs
  key : Int
instance : Inhabited En := ⟨⟨0, default, 0⟩⟩
def EnC (e : En) : List Value := .int .i64 e.no :: (FsC e.fs ++ [.int .u64 e.key])
abbrev EnA (e : En) : Value := .agg (EnC e).toArray
abbrev ItA (no : Int) (x : Fs) : Value := .agg (.int .i64 no :: FsC x).toArray
instance : RowE EnC 13 := ⟨fun _ => rfl, fun r u hu => by
  simp only [EnC, FsC, FC, List.mem_cons, List.mem_append, List.mem_nil_iff, or_false] at hu
  rcases hu with rfl | (rfl | rfl | rfl | rfl | rfl | rfl | rfl | rfl | rfl | rfl | rfl) | rfl <;> rfl⟩
structure EnOk (w0 : World) (H : List Chunk) (e : En) : Prop where
  n0 : 0 ≤ e.no
  n1 : e.no ≤ 4611686018427387904
  fs : FsOk w0 H e.fs
  chk : chkF e.fs.f = 0
  key : e.key = keyF e.fs.f
def cmpI (x y : Int) : Int := if x < y then -1 else if y < x then 1 else 0
def cmpE (x y : En) : Int := if cmpI x.key y.key ≠ 0 then cmpI x.key y.key else cmpI x.no y.no
def ltE (x y : En) : Bool := decide (cmpE x y < 0)
def gE (L : List En) (i : Nat) : En := L.getD i default
def swapL (L : List En) (i j : Nat) : List En := (L.set i (gE L j)).set j (gE L i)
theorem swapL_len (L : List En) (i j : Nat) : (swapL L i j).length = L.length := by simp [swapL]
def upL (L : List En) (j : Nat) : List En := if h : j = 0 then L else if ltE (gE L j) (gE L ((j - 1) / 2)) = true then upL (swapL L ((j - 1) / 2) j) ((j - 1) / 2) else L
termination_by j
decreasing_by omega
def kid (L : List En) (i n : Nat) : Nat := if 2 * i + 2 < n ∧ ltE (gE L (2 * i + 2)) (gE L (2 * i + 1)) = true then 2 * i + 2 else 2 * i + 1
theorem kid_or (L : List En) (i n : Nat) : kid L i n = 2 * i + 1 ∨ (kid L i n = 2 * i + 2 ∧ 2 * i + 2 < n) := by
  unfold kid; split <;> omega
def downL (L : List En) (i n : Nat) : List En × Nat :=
  if h : n ≤ 2 * i + 1 then (L, i) else if ltE (gE L (kid L i n)) (gE L i) = true then downL (swapL L i (kid L i n)) (kid L i n) n else (L, i)
termination_by n - i
decreasing_by have := kid_or L i n; omega
theorem up_0 (L : List En) : upL L 0 = L := by rw [upL]; simp
theorem up_yes {L : List En} {j : Nat} (h : 0 < j) (h2 : ltE (gE L j) (gE L ((j - 1) / 2)) = true) : upL L j = upL (swapL L ((j - 1) / 2) j) ((j - 1) / 2) := by
  rw [upL, dif_neg (by omega), if_pos h2]
theorem up_no {L : List En} {j : Nat} (h2 : ¬ ltE (gE L j) (gE L ((j - 1) / 2)) = true) : upL L j = L := by
  rw [upL]
  by_cases h : j = 0
  · rw [dif_pos h]
  · rw [dif_neg h, if_neg h2]
theorem down_end {L : List En} {i n : Nat} (h : n ≤ 2 * i + 1) : downL L i n = (L, i) := by rw [downL, dif_pos h]
theorem down_yes {L : List En} {i n : Nat} (h : 2 * i + 1 < n) (h2 : ltE (gE L (kid L i n)) (gE L i) = true) : downL L i n = downL (swapL L i (kid L i n)) (kid L i n) n := by
  rw [downL, dif_neg (by omega), if_pos h2]
theorem down_no {L : List En} {i n : Nat} (h : 2 * i + 1 < n) (h2 : ¬ ltE (gE L (kid L i n)) (gE L i) = true) : downL L i n = (L, i) := by
  rw [downL, dif_neg (by omega), if_neg h2]
theorem kid_2 {L : List En} {i n : Nat} (h : 2 * i + 2 < n) (h2 : ltE (gE L (2 * i + 2)) (gE L (2 * i + 1)) = true) : kid L i n = 2 * i + 2 := if_pos ⟨h, h2⟩
theorem kid_1 {L : List En} {i n : Nat} (h2 : ¬ (2 * i + 2 < n ∧ ltE (gE L (2 * i + 2)) (gE L (2 * i + 1)) = true)) : kid L i n = 2 * i + 1 := if_neg h2
theorem down_stp {L : List En} {i n j : Nat} (h : 2 * i + 1 < n) (hk : kid L i n = j) (h2 : ltE (gE L j) (gE L i) = true) : downL L i n = downL (swapL L i j) j n := by
  subst hk; exact down_yes h h2
theorem down_nop {L : List En} {i n j : Nat} (h : 2 * i + 1 < n) (hk : kid L i n = j) (h2 : ¬ ltE (gE L j) (gE L i) = true) : downL L i n = (L, i) := by
  subst hk; exact down_no h h2
theorem upL_len (L : List En) (j : Nat) : (upL L j).length = L.length := by
  induction j using Nat.strongRecOn generalizing L with
  | ind j ih =>
    by_cases h0 : j = 0
    · subst h0; rw [up_0]
    · by_cases h : ltE (gE L j) (gE L ((j - 1) / 2)) = true
      · rw [up_yes (by omega) h, ih _ (by omega), swapL_len]
      · rw [up_no h]
theorem downL_len : ∀ (m : Nat) (L : List En) (i n : Nat), n - i ≤ m → (downL L i n).1.length = L.length := by
  intro m
  induction m with
  | zero => intro L i n h; rw [down_end (by omega)]
  | succ m ih =>
    intro L i n h
    by_cases h1 : n ≤ 2 * i + 1
    · rw [down_end h1]
    · by_cases h2 : ltE (gE L (kid L i n)) (gE L i) = true
      · have := kid_or L i n
        rw [down_yes (by omega) h2, ih _ _ _ (by omega), swapL_len]
      · rw [down_no (by omega) h2]
theorem gE_get {L : List En} {i : Nat} (h : i < L.length) : L[i]? = some (gE L i) := by
  unfold gE; rw [List.getD_eq_getElem?_getD, List.getElem?_eq_getElem h]; rfl
theorem swapL_mem {L : List En} {i j : Nat} {e : En} (hi : i < L.length) (hj : j < L.length) (h : e ∈ swapL L i j) : e ∈ L := by
  have m : ∀ k, k < L.length → gE L k ∈ L := fun k hk => List.mem_of_getElem? (gE_get hk)
  unfold swapL at h
  rcases List.mem_or_eq_of_mem_set h with h | rfl
  · rcases List.mem_or_eq_of_mem_set h with h | rfl
    · exact h
    · exact m j hj
  · exact m i hi
theorem upL_mem {e : En} (j : Nat) : ∀ L : List En, j < L.length → e ∈ upL L j → e ∈ L := by
  induction j using Nat.strongRecOn with
  | ind j ih =>
    intro L hj h
    by_cases h0 : j = 0
    · subst h0; rwa [up_0] at h
    · by_cases h1 : ltE (gE L j) (gE L ((j - 1) / 2)) = true
      · rw [up_yes (by omega) h1] at h
        exact swapL_mem (by omega) hj (ih _ (by omega) _ (by rw [swapL_len]; omega) h)
      · rwa [up_no h1] at h
theorem downL_mem {e : En} : ∀ (m : Nat) (L : List En) (i n : Nat), n - i ≤ m → n ≤ L.length → e ∈ (downL L i n).1 → e ∈ L := by
  intro m
  induction m with
  | zero => intro L i n h _ he; rwa [down_end (by omega)] at he
  | succ m ih =>
    intro L i n h hn he
    by_cases h1 : n ≤ 2 * i + 1
    · rwa [down_end h1] at he
    · by_cases h2 : ltE (gE L (kid L i n)) (gE L i) = true
      · have := kid_or L i n
        rw [down_yes (by omega) h2] at he
        exact swapL_mem (by omega) (by omega) (ih _ _ _ (by omega) (by rw [swapL_len]; exact hn) he)
      · rwa [down_no (by omega) h2] at he
def popL (L : List En) : List En := (downL (swapL L 0 (L.length - 1)) 0 (L.length - 1)).1
theorem popL_len (L : List En) : (popL L).length = L.length := by unfold popL; rw [downL_len _ _ _ _ (Nat.le_refl _), swapL_len]
def remL (L : List En) (i : Nat) : List En :=
  if L.length - 1 = i then L
  else if i < (downL (swapL L i (L.length - 1)) i (L.length - 1)).2 then (downL (swapL L i (L.length - 1)) i (L.length - 1)).1
  else upL (downL (swapL L i (L.length - 1)) i (L.length - 1)).1 i
theorem remL_len (L : List En) (i : Nat) : (remL L i).length = L.length := by
  unfold remL
  split
  · rfl
  · split
    · rw [downL_len _ _ _ _ (Nat.le_refl _), swapL_len]
    · rw [upL_len, downL_len _ _ _ _ (Nat.le_refl _), swapL_len]
theorem popL_mem {L : List En} {e : En} (h0 : 0 < L.length) (h : e ∈ popL L) : e ∈ L :=
  swapL_mem (i := 0) (j := L.length - 1) (by omega) (by omega) (downL_mem _ _ _ _ (Nat.le_refl _) (by rw [swapL_len]; omega) h)
theorem remL_mem {L : List En} {i : Nat} {e : En} (hi : i < L.length) (h : e ∈ remL L i) : e ∈ L := by
  unfold remL at h
  split at h
  · exact h
  · split at h
    · exact swapL_mem (i := i) (j := L.length - 1) hi (by omega) (downL_mem _ _ _ _ (Nat.le_refl _) (by rw [swapL_len]; omega) h)
    · exact swapL_mem (i := i) (j := L.length - 1) hi (by omega) (downL_mem _ _ _ _ (Nat.le_refl _) (by rw [swapL_len]; omega) (upL_mem _ _ (by rw [downL_len _ _ _ _ (Nat.le_refl _), swapL_len]; exact hi) h))
/-- A short frame. -/
def fz (z : Int) : Frm := ⟨1, z, false, false, false, false, false, 0, 0, 0, [z]⟩
theorem fz_ok {z : Int} (h0 : 0 ≤ z) (h1 : z ≤ 255) : FrOk (fz z) := ⟨show (_ : Int) ≤ 1 ∧ (1 : Int) ≤ _ by decide, ⟨h0, by show z ≤ _; omega⟩, show (0 : Int) ≤ 0 ∧ (0 : Int) ≤ 255 by decide, show (0 : Int) ≤ 0 ∧ (0 : Int) ≤ 255 by decide, show (0 : Int) ≤ 0 ∧ (0 : Int) ≤ 4294967295 by decide, Byte.one h0 h1⟩
theorem alive_1 (x : Fs) : upL ([] ++ [⟨0 + 1, x, keyF (fz 5)⟩]) 0 = [⟨0 + 1, x, keyF (fz 5)⟩] := up_0 _
theorem alive_2 (x y : Fs) : upL ([⟨0 + 1, x, keyF (fz 5)⟩] ++ [⟨0 + 1 + 1, y, keyF (fz 3)⟩]) (0 + 1) = [⟨0 + 1 + 1, y, keyF (fz 3)⟩, ⟨0 + 1, x, keyF (fz 5)⟩] := by
  rw [up_yes (by omega) rfl]; exact up_0 _
theorem alive_3 (x y z : Fs) : upL ([⟨0 + 1 + 1, y, keyF (fz 3)⟩, ⟨0 + 1, x, keyF (fz 5)⟩] ++ [⟨0 + 1 + 1 + 1, z, keyF (fz 5)⟩]) (0 + 1 + 1) = [⟨0 + 1 + 1, y, keyF (fz 3)⟩, ⟨0 + 1, x, keyF (fz 5)⟩, ⟨0 + 1 + 1 + 1, z, keyF (fz 5)⟩] :=
  up_no (fun h => by cases h)
theorem alive_4 (x y z : Fs) : (popL [⟨0 + 1 + 1, y, keyF (fz 3)⟩, ⟨0 + 1, x, keyF (fz 5)⟩, ⟨0 + 1 + 1 + 1, z, keyF (fz 5)⟩]).take (0 + 1 + 1 + 1 - 1) = [⟨0 + 1, x, keyF (fz 5)⟩, ⟨0 + 1 + 1 + 1, z, keyF (fz 5)⟩] := by
  unfold popL
  rw [down_stp (j := 1) (Nat.le_of_ble_eq_true rfl) rfl rfl, down_end (Nat.le_of_ble_eq_true rfl)]
  rfl
theorem alive_5 (x z : Fs) : (popL [⟨0 + 1, x, keyF (fz 5)⟩, ⟨0 + 1 + 1 + 1, z, keyF (fz 5)⟩]).take (0 + 1 + 1 + 1 - 1 - 1) = [⟨0 + 1 + 1 + 1, z, keyF (fz 5)⟩] := by
  unfold popL
  rw [down_end (Nat.le_of_ble_eq_true rfl)]
  rfl
end Go.Sep
