import Derived.Test.YtjemdjjmpgjieaaS15
set_option linter.unusedVariables false
set_option linter.unusedSimpArgs false
/- Frames: sizes, codes, which may be, which are the same. -/
namespace Go.Sep
open Go
structure Frm where
  kind : Int
  id : Int
  ext : Bool
  rtr : Bool
  brs : Bool
  esi : Bool
  sec : Bool
  sdt : Int
  vcid : Int
  af : Int
  data : List Int
/-- A frame's numbers are of their kinds. -/
structure FrOk (f : Frm) : Prop where
  kind : -9223372036854775808 ≤ f.kind ∧ f.kind ≤ 9223372036854775807
  id : 0 ≤ f.id ∧ f.id ≤ 4294967295
  sdt : 0 ≤ f.sdt ∧ f.sdt ≤ 255
  vcid : 0 ≤ f.vcid ∧ f.vcid ≤ 255
  af : 0 ≤ f.af ∧ f.af ≤ 4294967295
  data : Byte f.data
abbrev FA (f : Frm) (a : Option Addr) (n c : Nat) : Value := .agg #[.int .i64 f.kind, .int .u32 f.id, .bool f.ext, .bool f.rtr, .bool f.brs, .bool f.esi, .bool f.sec, .int .u8 f.sdt, .int .u8 f.vcid, .int .u32 f.af, .slice a n c]
abbrev FC (f : Frm) (a : Option Addr) (n c : Nat) : List Value := [.int .i64 f.kind, .int .u32 f.id, .bool f.ext, .bool f.rtr, .bool f.brs, .bool f.esi, .bool f.sec, .int .u8 f.sdt, .int .u8 f.vcid, .int .u32 f.af, .slice a n c]
/-- Sizes of the second kind. -/
def fdSize (c : Int) : Int := if c ≤ 8 then c else if c = 9 then 12 else if c = 10 then 16 else if c = 11 then 20 else if c = 12 then 24 else if c = 13 then 32 else if c = 14 then 48 else 64
def fdUp (n : Int) : Int := if n ≤ 0 then 0 else if n ≤ 8 then n else if n ≤ 12 then 9 else if n ≤ 16 then 10 else if n ≤ 20 then 11 else if n ≤ 24 then 12 else if n ≤ 32 then 13 else if n ≤ 48 then 14 else if n ≤ 64 then 15 else 16
def sizeS (kind c : Int) : Int × Int :=
  if kind = 3 ∧ 0 ≤ c ∧ c < 2048 then (c + 1, 0) else if (kind = 1 ∨ kind = 2) ∧ 0 ≤ c ∧ c ≤ 8 then (c, 0) else if kind = 2 ∧ 9 ≤ c ∧ c ≤ 15 then (fdSize c, 0) else (0, 2)
def codeS (kind n : Int) : Int × Int :=
  if kind = 3 ∧ 1 ≤ n ∧ n ≤ 2048 then (n - 1, 0) else if kind = 1 ∧ 0 ≤ n ∧ n ≤ 8 then (n, 0) else if kind = 2 ∧ 0 ≤ n ∧ n ≤ 64 ∧ fdSize (fdUp n) = n then (fdUp n, 0) else (0, 2)
def fitS (kind n : Int) : Int × Int :=
  if kind = 3 ∧ 0 ≤ n ∧ n ≤ 2048 then (max n 1, 0) else if kind = 1 ∧ 0 ≤ n ∧ n ≤ 8 then (n, 0) else if kind = 2 ∧ 0 ≤ n ∧ n ≤ 64 then (fdSize (fdUp n), 0) else (0, 2)
theorem fd_up {n : Int} (h0 : 0 ≤ n) (h1 : n ≤ 64) : 0 ≤ fdUp n ∧ fdUp n ≤ 15 ∧ n ≤ fdSize (fdUp n) ∧ fdSize (fdUp n) ≤ 64 ∧ ∀ j, 0 ≤ j → j < fdUp n → fdSize j < n := by
  have key : ∀ c, 0 ≤ c → c ≤ 15 → 0 ≤ fdSize c ∧ fdSize c ≤ 64 := by intro c h0 h1; unfold fdSize; grind (splits := 60)
  refine ⟨?_, ?_, ?_, ?_, ?_⟩
  · unfold fdUp; grind (splits := 60)
  · unfold fdUp; grind (splits := 60)
  · unfold fdUp fdSize; grind (splits := 60)
  · unfold fdUp fdSize; grind (splits := 60)
  · intro j hj h; unfold fdUp at h; unfold fdSize; grind (splits := 60)
theorem fd_inj {a b : Int} (h0 : 0 ≤ a) (h1 : a ≤ 15) (h2 : 0 ≤ b) (h3 : b ≤ 15) (h : fdSize a = fdSize b) : a = b := by unfold fdSize at h; grind (splits := 60)
theorem fd_mono {a b : Int} (h0 : 0 ≤ a) (h : a < b) (h3 : b ≤ 15) : fdSize a < fdSize b := by unfold fdSize; grind (splits := 60)
theorem fd_back {c : Int} (h0 : 0 ≤ c) (h1 : c ≤ 15) : fdUp (fdSize c) = c ∧ 0 ≤ fdSize c ∧ fdSize c ≤ 64 := by unfold fdUp fdSize; grind (splits := 60)
/-- The first code of a size is its code. -/
theorem code_hit {kind n : Int} {k : Nat} (h : sizeS kind k = (n, 0)) : codeS kind n = ((k : Int), 0) := by
  unfold sizeS at h
  unfold codeS
  split at h
  · simp only [Prod.mk.injEq, and_true] at h; rw [if_pos (by omega)]; simp; omega
  · split at h
    · simp only [Prod.mk.injEq, and_true] at h
      rcases (by omega : kind = 1 ∨ kind = 2) with hk | hk
      · rw [if_neg (by omega), if_pos (by omega)]; simp; omega
      · have := fd_back (c := k) (by omega) (by omega)
        have e : fdSize k = k := by unfold fdSize; rw [if_pos (by omega)]
        rw [e] at this
        subst h
        rw [if_neg (by omega), if_neg (by omega), if_pos ⟨hk, by omega, by omega, by rw [this.1, e]⟩, this.1]
    · split at h
      · simp only [Prod.mk.injEq, and_true] at h
        have := fd_back (c := k) (by omega) (by omega)
        subst h
        rw [if_neg (by omega), if_neg (by omega), if_pos ⟨by omega, by omega, by omega, by rw [this.1]⟩, this.1]
      · simp at h
theorem code_miss {kind n : Int} (h : ∀ j : Nat, j < 2048 → sizeS kind j ≠ (n, 0)) : codeS kind n = (0, 2) := by
  unfold codeS
  rw [if_neg, if_neg, if_neg]
  · rintro ⟨hk, h0, h1, he⟩
    have hu := fd_up h0 h1
    refine h (fdUp n).toNat (by omega) ?_
    have e : ((fdUp n).toNat : Int) = fdUp n := by omega
    unfold sizeS
    rw [e, if_neg (by omega)]
    split
    · have : fdSize (fdUp n) = fdUp n := by unfold fdSize; rw [if_pos (by omega)]
      simp; omega
    · rw [if_pos (by omega)]; simp; exact he
  · rintro ⟨hk, h0, h1⟩
    refine h n.toNat (by omega) ?_
    unfold sizeS
    rw [if_neg (by omega), if_pos (by omega)]; simp; omega
  · rintro ⟨hk, h0, h1⟩
    refine h (n - 1).toNat (by omega) ?_
    unfold sizeS
    rw [if_pos (by omega)]; simp; omega
/-- The first size that isn't less fits. -/
theorem fit_hit {kind n : Int} {k : Nat} {s : Int} (h0 : 0 ≤ n) (h : sizeS kind k = (s, 0)) (hn : n ≤ s) (hm : ∀ j : Nat, j < k → ∀ t, sizeS kind j = (t, 0) → t < n) : fitS kind n = (s, 0) := by
  have hall : ∀ j : Nat, j < k → (sizeS kind j).2 = 0 → (sizeS kind j).1 < n := fun j hj he => hm j hj _ (by rw [← he])
  unfold sizeS at h
  unfold fitS
  split at h
  · rename_i hk
    simp only [Prod.mk.injEq, and_true] at h
    rw [if_pos (by omega)]
    have h2 : 0 < k → (k : Int) < n := fun hp => by
      have := hall (k - 1) (by omega) (by unfold sizeS; rw [if_pos (by omega)])
      unfold sizeS at this; rw [if_pos (by omega)] at this; simp at this; omega
    simp; omega
  · split at h
    · rename_i hk
      simp only [Prod.mk.injEq, and_true] at h
      have h2 : 0 < k → (k : Int) - 1 < n := fun hp => by
        have := hall (k - 1) (by omega) (by unfold sizeS; rw [if_neg (by omega), if_pos (by omega)])
        unfold sizeS at this; rw [if_neg (by omega), if_pos (by omega)] at this; simp at this; omega
      rcases (by omega : kind = 1 ∨ kind = 2) with h1 | h1
      · rw [if_neg (by omega), if_pos (by omega)]; simp; omega
      · have e : n = k := by omega
        rw [if_neg (by omega), if_neg (by omega), if_pos (by omega)]
        simp only [Prod.mk.injEq, and_true]
        subst e; rw [← h]; unfold fdUp fdSize; grind (splits := 60)
    · split at h
      · rename_i hk
        simp only [Prod.mk.injEq, and_true] at h
        have hs : s ≤ 64 := by rw [← h]; have := (fd_back (c := k) (by omega) (by omega)).2.2; omega
        rw [if_neg (by omega), if_neg (by omega), if_pos (by omega)]
        simp only [Prod.mk.injEq, and_true]
        have hu := fd_up h0 (by omega : n ≤ 64)
        have hk2 : fdUp n ≤ k := by
          rcases Int.lt_or_le k (fdUp n) with hlt | hle
          · have := hu.2.2.2.2 k (by omega) hlt; omega
          · exact hle
        have hk3 : ¬ fdUp n < k := by
          intro hlt
          have hj : ((fdUp n).toNat : Int) = fdUp n := by omega
          have := hall (fdUp n).toNat (by omega)
          unfold sizeS at this
          rw [hj, if_neg (by omega)] at this
          split at this
          · have e : fdSize (fdUp n) = fdUp n := by unfold fdSize; rw [if_pos (by omega)]
            have := this rfl; simp at this; omega
          · rw [if_pos (by omega)] at this; have := this rfl; simp at this; omega
        rw [show fdUp n = (k : Int) by omega]; exact h
      · simp at h
theorem fit_miss {kind n : Int} (h : n < 0 ∨ ∀ j : Nat, j < 2048 → ∀ t, sizeS kind j = (t, 0) → t < n) : fitS kind n = (0, 2) := by
  unfold fitS
  rw [if_neg, if_neg, if_neg]
  · rintro ⟨hk, h0, h1⟩
    rcases h with h | h
    · omega
    · have := h 15 (by omega) 64 (by subst hk; rfl); omega
  · rintro ⟨hk, h0, h1⟩
    rcases h with h | h
    · omega
    · have := h 8 (by omega) 8 (by subst hk; rfl); omega
  · rintro ⟨hk, h0, h1⟩
    rcases h with h | h
    · omega
    · have := h 2047 (by omega) 2048 (by subst hk; rfl); omega
def sameF (a b : Frm) : Bool := decide (a.kind = b.kind) && decide (a.id = b.id) && (a.ext == b.ext) && (a.rtr == b.rtr) && (a.brs == b.brs) && (a.esi == b.esi) && (a.sec == b.sec) && decide (a.sdt = b.sdt) && decide (a.vcid = b.vcid) && decide (a.af = b.af) && decide (a.data = b.data)
theorem sameF_iff {a b : Frm} : sameF a b = true ↔ a = b := by
  cases a; cases b
  simp only [sameF, Bool.and_eq_true, decide_eq_true_eq, beq_iff_eq, Frm.mk.injEq]
  constructor
  · rintro ⟨⟨⟨⟨⟨⟨⟨⟨⟨⟨a, b⟩, c⟩, d⟩, e⟩, f⟩, g⟩, h⟩, i⟩, j⟩, k⟩; exact ⟨a, b, c, d, e, f, g, h, i, j, k⟩
  · rintro ⟨a, b, c, d, e, f, g, h, i, j, k⟩; exact ⟨⟨⟨⟨⟨⟨⟨⟨⟨⟨a, b⟩, c⟩, d⟩, e⟩, f⟩, g⟩, h⟩, i⟩, j⟩, k⟩
theorem sameF_refl (a : Frm) : sameF a a = true := sameF_iff.2 rfl
/-- A frame without what its kind may have. -/
def bareF (f : Frm) : Frm :=
  if f.kind = 1 then { f with id := 0, data := [], ext := false, rtr := false }
  else if f.kind = 2 then { f with id := 0, data := [], brs := false, esi := false }
  else if f.kind = 3 then { f with id := 0, data := [], sec := false, sdt := 0, vcid := 0, af := 0 }
  else { f with id := 0, data := [] }
def zeroF (k : Int) : Frm := ⟨k, 0, false, false, false, false, false, 0, 0, 0, []⟩
def okF (f : Frm) : Bool := decide ((codeS f.kind f.data.length).2 = 0) && decide (f.id < (if f.ext = true then 536870912 else 2048)) && !(f.rtr && decide (0 < f.data.length)) && sameF (bareF f) (zeroF f.kind)
def chkF (f : Frm) : Int := if okF f = true then 0 else 2
theorem codeS_2 (k n : Int) : (codeS k n).2 = 0 ∨ (codeS k n).2 = 2 := by unfold codeS; split <;> (try split) <;> (try split) <;> simp
def FDT : List Int := [0, 1, 2, 3, 4, 5, 6, 7, 8, 12, 16, 20, 24, 32, 48, 64]
theorem fdt_get : ∀ j, j < 16 → FDT.getD j 0 = fdSize j := by decide
theorem fd_le {a b : Nat} (h : a ≤ b) (h3 : b ≤ 15) : fdSize a ≤ fdSize b := by
  rcases Nat.lt_or_ge a b with h1 | h1
  · exact Int.le_of_lt (fd_mono (by omega) (by omega) (by omega))
  · rw [show a = b by omega]; exact Int.le_refl _
theorem bin_end {i : Nat} {t : Int} (hi : i ≤ 16) (h1 : ∀ j : Nat, j < i → fdSize j < t) (h2 : ∀ j : Nat, i ≤ j → j < 16 → t ≤ fdSize j) : (i : Int) = fdUp t := by
  have h : i = 0 ∨ i = 1 ∨ i = 2 ∨ i = 3 ∨ i = 4 ∨ i = 5 ∨ i = 6 ∨ i = 7 ∨ i = 8 ∨ i = 9 ∨ i = 10 ∨ i = 11 ∨ i = 12 ∨ i = 13 ∨ i = 14 ∨ i = 15 ∨ i = 16 := by omega
  have e0 : fdSize (0 : Nat) = 0 := rfl
  have e1 : fdSize (1 : Nat) = 1 := rfl
  have e2 : fdSize (2 : Nat) = 2 := rfl
  have e3 : fdSize (3 : Nat) = 3 := rfl
  have e4 : fdSize (4 : Nat) = 4 := rfl
  have e5 : fdSize (5 : Nat) = 5 := rfl
  have e6 : fdSize (6 : Nat) = 6 := rfl
  have e7 : fdSize (7 : Nat) = 7 := rfl
  have e8 : fdSize (8 : Nat) = 8 := rfl
  have e9 : fdSize (9 : Nat) = 12 := rfl
  have e10 : fdSize (10 : Nat) = 16 := rfl
  have e11 : fdSize (11 : Nat) = 20 := rfl
  have e12 : fdSize (12 : Nat) = 24 := rfl
  have e13 : fdSize (13 : Nat) = 32 := rfl
  have e14 : fdSize (14 : Nat) = 48 := rfl
  have e15 : fdSize (15 : Nat) = 64 := rfl
  have a1 := fun h => h1 (i - 1) h
  have a2 := fun h => h2 i (Nat.le_refl _) h
  unfold fdUp
  rcases h with rfl | rfl | rfl | rfl | rfl | rfl | rfl | rfl | rfl | rfl | rfl | rfl | rfl | rfl | rfl | rfl | rfl <;> simp only [Nat.reduceSub, Nat.reduceLT, forall_const, Nat.lt_irrefl, forall_false, e0, e1, e2, e3, e4, e5, e6, e7, e8, e9, e10, e11, e12, e13, e14, e15] at a1 a2 <;> grind (splits := 60)
def loS (k : Int) : Int := if k = 1 then 0 else 1
def hiS (k : Int) : Int := if k = 1 then 8 else if k = 3 then 2048 else 0
theorem loS_hiS (k : Int) : 0 ≤ loS k ∧ loS k ≤ 2048 ∧ 0 ≤ hiS k ∧ hiS k ≤ 2048 ∧ ((k = 1 ∧ loS k = 0 ∧ hiS k = 8) ∨ (k = 3 ∧ loS k = 1 ∧ hiS k = 2048) ∨ (k ≠ 1 ∧ k ≠ 3 ∧ loS k = 1 ∧ hiS k = 0)) := by
  unfold loS hiS; split <;> (try split) <;> omega
theorem fd_64 (n : Int) (h : 0 ≤ n) : 0 ≤ fdUp n ∧ (n ≤ 64 → fdUp n < 16) ∧ (64 < n → fdUp n = 16) := by
  refine ⟨?_, ?_, ?_⟩ <;> unfold fdUp <;> grind (splits := 60)
theorem code_bad {k n : Int} (h : (k = 2 ∧ ¬ (fdUp n < 16 ∧ fdSize (fdUp n) = n)) ∨ (k ≠ 2 ∧ ¬ (loS k ≤ n ∧ n ≤ hiS k))) : codeS k n = (0, 2) := by
  have hb := loS_hiS k
  unfold codeS
  rw [if_neg, if_neg, if_neg]
  · rintro ⟨hk, h0, h1, he⟩
    have := (fd_up h0 h1).2.1
    rcases h with h | h
    · exact h.2 ⟨by omega, he⟩
    · omega
  · omega
  · omega
theorem code_okT {k n : Int} (hk : k = 2) (h : fdUp n < 16 ∧ fdSize (fdUp n) = n) (_ : -9223372036854775808 ≤ n) (_ : n ≤ 9223372036854775807) : codeS k n = (fdUp n, 0) := by
  unfold codeS
  have h0 : 0 ≤ fdUp n := by unfold fdUp; grind (splits := 60)
  have := fd_back h0 (by omega : fdUp n ≤ 15)
  rw [if_neg (by omega), if_neg (by omega), if_pos ⟨hk, by omega, by omega, h.2⟩]
theorem code_okN {k n : Int} (hk : k ≠ 2) (h : loS k ≤ n ∧ n ≤ hiS k) (_ : -9223372036854775808 ≤ n) (_ : n ≤ 9223372036854775807) : codeS k n = (IntKind.i64.wrap (n - loS k), 0) := by
  have hb := loS_hiS k
  rw [wrap_i64 (by omega) (by omega)]
  unfold codeS
  rcases hb.2.2.2.2 with hh | hh | hh
  · rw [if_neg (by omega), if_pos (by omega)]; congr 1; omega
  · rw [if_pos (by omega)]; congr 1; omega
  · omega
theorem size_bad {k n : Int} (h : (k = 2 ∧ ¬ (0 ≤ n ∧ n < 16)) ∨ (k ≠ 2 ∧ ¬ (0 ≤ n ∧ n ≤ hiS k - loS k))) : sizeS k n = (0, 2) := by
  have hb := loS_hiS k
  unfold sizeS
  rw [if_neg (by omega), if_neg (by omega), if_neg (by omega)]
theorem size_okT {k n : Int} (hk : k = 2) (h : 0 ≤ n ∧ n < 16) (_ : -9223372036854775808 ≤ n) (_ : n ≤ 9223372036854775807) : sizeS k n = (if 0 ≤ n ∧ n < 16 then fdSize n else 0, 0) := by
  rw [if_pos h]
  unfold sizeS
  rw [if_neg (by omega)]
  split
  · unfold fdSize; rw [if_pos (by omega)]
  · rw [if_pos (by omega)]
theorem size_okN {k n : Int} (hk : k ≠ 2) (h : 0 ≤ n ∧ n ≤ hiS k - loS k) (_ : -9223372036854775808 ≤ n) (_ : n ≤ 9223372036854775807) : sizeS k n = (IntKind.i64.wrap (n + loS k), 0) := by
  have hb := loS_hiS k
  rw [wrap_i64 (by omega) (by omega)]
  unfold sizeS
  rcases hb.2.2.2.2 with hh | hh | hh
  · rw [if_neg (by omega), if_pos (by omega)]; congr 1; omega
  · rw [if_pos (by omega)]; congr 1; omega
  · omega
theorem fit_bad {k n : Int} (h : (k = 2 ∧ ¬ (0 ≤ n ∧ n ≤ 64)) ∨ (k ≠ 2 ∧ ¬ (0 ≤ n ∧ max n (loS k) ≤ hiS k))) : fitS k n = (0, 2) := by
  have hb := loS_hiS k
  unfold fitS
  rw [if_neg (by omega), if_neg (by omega), if_neg (by omega)]
theorem fit_okT {k n : Int} (hk : k = 2) (h : 0 ≤ n ∧ n ≤ 64) (_ : -9223372036854775808 ≤ n) (_ : n ≤ 9223372036854775807) : fitS k n = (if 0 ≤ n ∧ n ≤ 64 then fdSize (fdUp n) else 0, 0) := by
  rw [if_pos h]
  unfold fitS
  rw [if_neg (by omega), if_neg (by omega), if_pos (by omega)]
theorem fit_okN {k n : Int} (hk : k ≠ 2) (h : 0 ≤ n ∧ max n (loS k) ≤ hiS k) (_ : -9223372036854775808 ≤ n) (_ : n ≤ 9223372036854775807) : fitS k n = (if n < 0 then 0 else max n (loS k), 0) := by
  have hb := loS_hiS k
  rw [if_neg (by omega)]
  unfold fitS
  rcases hb.2.2.2.2 with hh | hh | hh
  · rw [if_neg (by omega), if_pos (by omega)]; congr 1; omega
  · rw [if_pos (by omega)]; congr 1; omega
  · omega
theorem tab7 {n : Int} (h0 : 9 ≤ n) (h1 : n ≤ 15) : ([12, 16, 20, 24, 32, 48, 64] : List Int).getD (n - 9).toNat 0 = fdSize n := by
  have h : n = 9 ∨ n = 10 ∨ n = 11 ∨ n = 12 ∨ n = 13 ∨ n = 14 ∨ n = 15 := by omega
  rcases h with rfl | rfl | rfl | rfl | rfl | rfl | rfl <;> rfl
theorem bareF_data (f : Frm) : (bareF f).data = [] := by unfold bareF; split <;> (try split) <;> (try split) <;> rfl
theorem bareF_kind (f : Frm) : (bareF f).kind = f.kind := by unfold bareF; split <;> (try split) <;> (try split) <;> rfl
theorem bareF_ok {f : Frm} (h : FrOk f) : FrOk (bareF f) := by
  obtain ⟨h1, h2, h3, h4, h5, h6⟩ := h
  unfold bareF
  split <;> (try split) <;> (try split) <;> exact ⟨h1, by simp, by first | exact h3 | simp, by first | exact h4 | simp, by first | exact h5 | simp, Byte.nil⟩
theorem zeroF_ok {f : Frm} (h : FrOk f) : FrOk (zeroF f.kind) := ⟨h.kind, by simp [zeroF], by simp [zeroF], by simp [zeroF], by simp [zeroF], Byte.nil⟩
theorem chkF_bad {f : Frm} (h : ((¬(codeS f.kind f.data.length).2 = 0 ∨ (if f.ext = true then (536870912 : Int) else 2048) ≤ f.id) ∨ f.rtr = true ∧ 0 < (f.data.length : Int)) ∨ sameF (bareF f) (zeroF f.kind) = false) : chkF f = 2 := by
  unfold chkF
  refine if_neg fun hk => ?_
  unfold okF at hk
  simp only [Bool.and_eq_true, decide_eq_true_eq, Bool.not_eq_true', Bool.and_eq_false_iff, decide_eq_false_iff_not] at hk
  obtain ⟨⟨⟨h1, h2⟩, h3⟩, h4⟩ := hk
  rcases h with ((h | h) | h) | h
  · exact h h1
  · omega
  · rcases h3 with h3 | h3
    · rw [h.1] at h3; cases h3
    · omega
  · rw [h4] at h; cases h
theorem chkF_good {f : Frm} (h : (((codeS f.kind f.data.length).2 = 0 ∧ f.id < (if f.ext = true then (536870912 : Int) else 2048)) ∧ (f.rtr = false ∨ (f.data.length : Int) ≤ 0)) ∧ sameF (bareF f) (zeroF f.kind) = true) : chkF f = 0 := by
  unfold chkF
  refine if_pos ?_
  unfold okF
  simp only [Bool.and_eq_true, decide_eq_true_eq, Bool.not_eq_true', Bool.and_eq_false_iff, decide_eq_false_iff_not]
  exact ⟨⟨⟨h.1.1.1, h.1.1.2⟩, h.1.2.imp id (by omega)⟩, h.2⟩
def RestF (f : Frm) : Prop :=
  (f.kind = 1 ∧ f.brs = false ∧ f.esi = false ∧ f.sec = false ∧ f.sdt = 0 ∧ f.vcid = 0 ∧ f.af = 0) ∨
  (f.kind = 2 ∧ f.ext = false ∧ f.rtr = false ∧ f.sec = false ∧ f.sdt = 0 ∧ f.vcid = 0 ∧ f.af = 0) ∨
  (f.kind = 3 ∧ f.ext = false ∧ f.rtr = false ∧ f.brs = false ∧ f.esi = false) ∨
  (f.kind ≠ 1 ∧ f.kind ≠ 2 ∧ f.kind ≠ 3 ∧ f.ext = false ∧ f.rtr = false ∧ f.brs = false ∧ f.esi = false ∧ f.sec = false ∧ f.sdt = 0 ∧ f.vcid = 0 ∧ f.af = 0)
theorem rest_iff {f : Frm} : sameF (bareF f) (zeroF f.kind) = true ↔ RestF f := by
  rw [sameF_iff]
  unfold RestF bareF zeroF
  split
  · rename_i h; rw [Frm.mk.injEq]; simp [h]
  · split
    · rename_i h; rw [Frm.mk.injEq]; simp [h]
    · split
      · rename_i h; rw [Frm.mk.injEq]; simp [h]
      · rename_i h1 h2 h3; cases f; simp at *; simp [h1, h2, h3]
theorem okF_iff {f : Frm} : okF f = true ↔ (codeS f.kind f.data.length).2 = 0 ∧ f.id < (if f.ext = true then (536870912 : Int) else 2048) ∧ (f.rtr = false ∨ (f.data.length : Int) ≤ 0) ∧ RestF f := by
  unfold okF
  rw [← rest_iff]
  simp only [Bool.and_eq_true, decide_eq_true_eq, Bool.not_eq_true', Bool.and_eq_false_iff, decide_eq_false_iff_not]
  constructor
  · rintro ⟨⟨⟨h1, h2⟩, h3⟩, h4⟩; exact ⟨h1, h2, h3.imp id (by omega), h4⟩
  · rintro ⟨h1, h2, h3, h4⟩; exact ⟨⟨⟨h1, h2⟩, h3.imp id (by omega)⟩, h4⟩
theorem chkF_2 {f : Frm} (h : ¬ ((codeS f.kind f.data.length).2 = 0 ∧ f.id < (if f.ext = true then (536870912 : Int) else 2048) ∧ (f.rtr = false ∨ (f.data.length : Int) ≤ 0) ∧ RestF f)) : chkF f = 2 := if_neg fun g => h (okF_iff.1 g)
theorem chkF_0 {f : Frm} (h : (codeS f.kind f.data.length).2 = 0 ∧ f.id < (if f.ext = true then (536870912 : Int) else 2048) ∧ (f.rtr = false ∨ (f.data.length : Int) ≤ 0) ∧ RestF f) : chkF f = 0 := if_pos (okF_iff.2 h)
theorem chkF_or (f : Frm) : chkF f = 0 ∨ chkF f = 2 := by unfold chkF; split <;> simp
theorem code_kind {k n : Int} (h : (codeS k n).2 = 0) : k = 1 ∨ k = 2 ∨ k = 3 := by
  unfold codeS at h
  split at h
  · omega
  · split at h
    · omega
    · split at h
      · omega
      · simp at h
end Go.Sep
