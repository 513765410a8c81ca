/- Fixed stuff bits: what is computed, in plain lists. -/
import Derived.Test.YtdcahmifalabnaaS10
set_option linter.unusedVariables false
set_option linter.unusedSimpArgs false
namespace Go.Proofs.Ytdcahmifalabnaa.M
open Go Go.Sep Go.Proofs

/-- What Put lays: the last bit, how many bits are left ahead of a stuff bit, the bits. -/
def putS (ev : Int) : Int → Int → List Int → List Int
  | _, _, [] => []
  | last, left, b :: l => if left = 0 then (1 - last) :: b :: putS ev b (ev - 1) l else b :: putS ev b (left - 1) l
theorem putS_step {ev last left : Int} {es : List Int} {k : Nat} (hk : k < es.length) : putS ev last left (es.drop k) = if left = 0 then (1 - last) :: es.getD k 0 :: putS ev (es.getD k 0) (ev - 1) (es.drop (k + 1)) else es.getD k 0 :: putS ev (es.getD k 0) (left - 1) (es.drop (k + 1)) := by
  rw [drop_cons hk, putS]
/-- What Put's loop knows. -/
structure PI (ev prev left0 : Int) (es : List Int) (k : Nat) (last left : Int) (out : List Int) : Prop where
  kn : k ≤ es.length
  all : out ++ putS ev last left (es.drop k) = putS ev prev left0 es
  len : out.length ≤ 2 * k
  l0 : 0 ≤ last
  l1 : last ≤ 1
  f0 : 0 ≤ left
  f1 : left ≤ ev
theorem PI.due {ev prev left0 last left : Int} {es out : List Int} {k : Nat} (h : PI ev prev left0 es k last left out) (hk : k < es.length) (he : 1 ≤ ev) (hb : 0 ≤ es.getD k 0 ∧ es.getD k 0 ≤ 1) (hd : left = 0) : PI ev prev left0 es (k + 1) (es.getD k 0) (ev - 1) (out ++ [1 - last, es.getD k 0]) := by
  refine ⟨hk, ?_, ?_, hb.1, hb.2, by omega, by omega⟩
  · rw [← h.all, putS_step hk, if_pos hd]; simp
  · have := h.len; simp; omega
theorem PI.see {ev prev left0 last left : Int} {es out : List Int} {k : Nat} (h : PI ev prev left0 es k last left out) (hk : k < es.length) (he : 1 ≤ ev) (hb : 0 ≤ es.getD k 0 ∧ es.getD k 0 ≤ 1) (hd : ¬ left = 0) : PI ev prev left0 es (k + 1) (es.getD k 0) (left - 1) (out ++ [es.getD k 0]) := by
  have h1 := h.f0
  have h2 := h.f1
  refine ⟨hk, ?_, ?_, hb.1, hb.2, by omega, by omega⟩
  · rw [← h.all, putS_step hk, if_neg hd]; simp
  · have := h.len; simp; omega

/-- How many are left, by how many bits there were. -/
def leftAt (ev : Int) (ah : Bool) (k : Nat) : Int := if k = 0 then (if ah then 0 else ev) else ev - 1 - ((k : Int) - 1) % ev
def dueAt (ev : Int) (ah : Bool) (k : Nat) : Prop := (0 < (k : Int) ∧ (k : Int).tmod ev = 0) ∨ ((k : Int) = 0 ∧ ah = true)
theorem mod_step {ev : Int} (he : 1 ≤ ev) (k : Nat) : (((k : Int) + 1) % ev = 0 ∧ (k : Int) % ev = ev - 1) ∨ (((k : Int) + 1) % ev = (k : Int) % ev + 1 ∧ (k : Int) % ev < ev - 1 ∧ 0 ≤ (k : Int) % ev) := by
  have h0 : 0 ≤ (k : Int) % ev := Int.emod_nonneg _ (by omega)
  have h1 : (k : Int) % ev < ev := Int.emod_lt_of_pos _ (by omega)
  have h2 : ((k : Int) + 1) % ev = ((k : Int) % ev + 1) % ev := by rw [Int.emod_add_emod]
  by_cases h : (k : Int) % ev = ev - 1
  · refine .inl ⟨?_, h⟩
    rw [h2, h, Int.sub_add_cancel, Int.emod_self]
  · refine .inr ⟨?_, by omega, h0⟩
    rw [h2, Int.emod_eq_of_lt (by omega) (by omega)]
theorem leftAt_due {ev : Int} {ah : Bool} {k : Nat} (he : 1 ≤ ev) : dueAt ev ah k ↔ leftAt ev ah k = 0 := by
  unfold leftAt dueAt
  rcases k with _ | k
  · cases ah <;> simp; omega
  · rw [Int.tmod_eq_emod_of_nonneg (by omega)]
    have := mod_step he k
    have e : ((k + 1 : Nat) : Int) = (k : Int) + 1 := by omega
    rw [if_neg (by omega), e, Int.add_sub_cancel]
    generalize (k : Int) % ev = r at this ⊢
    generalize ((k : Int) + 1) % ev = s at this ⊢
    constructor
    · rintro (⟨_, h⟩ | ⟨h, _⟩)
      · omega
      · omega
    · intro h; exact .inl ⟨by omega, by omega⟩
theorem leftAt_succ {ev : Int} {ah : Bool} {k : Nat} (he : 1 ≤ ev) : leftAt ev ah (k + 1) = if leftAt ev ah k = 0 then ev - 1 else leftAt ev ah k - 1 := by
  unfold leftAt
  rcases k with _ | k
  · cases ah <;> simp
    try (split <;> omega)
  · have := mod_step he k
    simp only [Nat.add_eq_zero_iff, Nat.one_ne_zero, and_false, if_false, Int.natCast_add, Int.cast_ofNat_Int, Int.add_sub_cancel]
    generalize (k : Int) % ev = r at this ⊢
    generalize ((k : Int) + 1) % ev = s at this ⊢
    split <;> omega
theorem getD_last (l : List Int) (b : Int) : (l ++ [b]).getD ((l ++ [b]).length - 1) 0 = b := by simp
/-- What Raw's loop knows. -/
structure RI (ev : Int) (ah : Bool) (prev : Int) (es : List Int) (k : Nat) (o : List Int) : Prop where
  kn : k ≤ es.length
  ne : 1 ≤ o.length
  all : o ++ putS ev (o.getD (o.length - 1) 0) (leftAt ev ah k) (es.drop k) = prev :: putS ev prev (leftAt ev ah 0) es
  len : o.length ≤ 2 * k + 1
  bits : Bit o
theorem RI.start {ev prev : Int} {ah : Bool} {es : List Int} (h0 : 0 ≤ prev) (h1 : prev ≤ 1) : RI ev ah prev es 0 [prev] := ⟨Nat.zero_le _, by simp, by simp, by simp, Bit.mk h0 h1 Bit.nil⟩
theorem RI.due {ev prev last : Int} {ah : Bool} {es o : List Int} {k : Nat} (h : RI ev ah prev es k o) (hk : k < es.length) (he : 1 ≤ ev) (hb : 0 ≤ es.getD k 0 ∧ es.getD k 0 ≤ 1) (hl : o.getD (o.length - 1) 0 = last) (hd : dueAt ev ah k) : RI ev ah prev es (k + 1) (o ++ [1 - last] ++ [es.getD k 0]) := by
  have hz := (leftAt_due he).1 hd
  have hlb := h.bits (o.length - 1)
  rw [hl] at hlb
  refine ⟨hk, by simp, ?_, ?_, (h.bits.append (Bit.mk (by omega) (by omega) Bit.nil)).append (Bit.mk hb.1 hb.2 Bit.nil)⟩
  · rw [← h.all, getD_last, putS_step hk, if_pos hz, leftAt_succ he, if_pos hz, hl]; simp
  · have := h.len; simp; omega
theorem RI.see {ev prev : Int} {ah : Bool} {es o : List Int} {k : Nat} (h : RI ev ah prev es k o) (hk : k < es.length) (he : 1 ≤ ev) (hb : 0 ≤ es.getD k 0 ∧ es.getD k 0 ≤ 1) (hd : ¬ dueAt ev ah k) : RI ev ah prev es (k + 1) (o ++ [es.getD k 0]) := by
  have hz : ¬ leftAt ev ah k = 0 := fun e => hd ((leftAt_due he).2 e)
  refine ⟨hk, by simp, ?_, ?_, h.bits.append (Bit.mk hb.1 hb.2 Bit.nil)⟩
  · rw [← h.all, getD_last, putS_step hk, if_neg hz, leftAt_succ he, if_neg hz]; simp
  · have := h.len; simp; omega
theorem RI.done {ev prev : Int} {ah : Bool} {es o : List Int} {k : Nat} (h : RI ev ah prev es k o) (hk : k = es.length) : o = prev :: putS ev prev (if ah then 0 else ev) es := by
  have := h.all
  rw [hk, List.drop_length] at this
  simpa [putS, leftAt] using this

/-- What Get tells: of none a stuff bit isn't; the flag says whether the last one was a stuff bit. -/
def getS (ev : Int) : Int → Int → Bool → List Int → Option (List Int × Bool)
  | _, _, d, [] => some ([], d)
  | last, left, _, b :: l => if left = 0 then (if b = last then none else getS ev (1 - last) ev true l) else (getS ev b (left - 1) false l).map fun p => (b :: p.1, p.2)
def pre (out : List Int) : Option (List Int × Bool) → Option (List Int × Bool) := Option.map fun p => (out ++ p.1, p.2)
theorem getS_step {ev last left : Int} {d : Bool} {es : List Int} {k : Nat} (hk : k < es.length) : getS ev last left d (es.drop k) = if left = 0 then (if es.getD k 0 = last then none else getS ev (1 - last) ev true (es.drop (k + 1))) else (getS ev (es.getD k 0) (left - 1) false (es.drop (k + 1))).map fun p => (es.getD k 0 :: p.1, p.2) := by
  rw [drop_cons hk, getS]
/-- What Get's loop knows. -/
structure GI (ev prev left0 : Int) (es : List Int) (k : Nat) (last left : Int) (d : Bool) (out : List Int) : Prop where
  kn : k ≤ es.length
  all : pre out (getS ev last left d (es.drop k)) = getS ev prev left0 false es
  len : out.length ≤ k
  l0 : 0 ≤ last
  l1 : last ≤ 1
  f0 : 0 ≤ left
  f1 : left ≤ ev
theorem GI.see {ev prev left0 last left : Int} {d : Bool} {es out : List Int} {k : Nat} (h : GI ev prev left0 es k last left d out) (hk : k < es.length) (he : 1 ≤ ev) (hb : 0 ≤ es.getD k 0 ∧ es.getD k 0 ≤ 1) (hd : ¬ left = 0) : GI ev prev left0 es (k + 1) (es.getD k 0) (left - 1) false (out ++ [es.getD k 0]) := by
  have h1 := h.f0
  have h2 := h.f1
  refine ⟨hk, ?_, ?_, hb.1, hb.2, by omega, by omega⟩
  · rw [← h.all, getS_step hk, if_neg hd]
    cases getS ev (es.getD k 0) (left - 1) false (es.drop (k + 1)) <;> simp [pre]
  · have := h.len; simp; omega
theorem GI.stuff {ev prev left0 last left : Int} {d : Bool} {es out : List Int} {k : Nat} (h : GI ev prev left0 es k last left d out) (hk : k < es.length) (he : 1 ≤ ev) (hd : left = 0) (hb : ¬ es.getD k 0 = last) : GI ev prev left0 es (k + 1) (1 - last) ev true out := by
  have h1 := h.l0
  have h2 := h.l1
  refine ⟨hk, ?_, ?_, by omega, by omega, by omega, by omega⟩
  · rw [← h.all, getS_step hk, if_pos hd, if_neg hb]
  · have := h.len; omega
theorem GI.bad {ev prev left0 last left : Int} {d : Bool} {es out : List Int} {k : Nat} (h : GI ev prev left0 es k last left d out) (hk : k < es.length) (hd : left = 0) (hb : es.getD k 0 = last) : getS ev prev left0 false es = none := by
  rw [← h.all, getS_step hk, if_pos hd, if_pos hb]; rfl
theorem GI.done {ev prev left0 last left : Int} {d : Bool} {es out : List Int} {k : Nat} (h : GI ev prev left0 es k last left d out) (hk : k = es.length) : getS ev prev left0 false es = some (out, d) := by
  rw [← h.all, hk, List.drop_length]; simp [getS, pre]

def wayOk (ev : Int) : Bool := decide (1 ≤ ev) && decide (ev ≤ 64)
def fck (prev : Int) (es : List Int) (ev : Int) : Bool := decide (prev ≤ 1) && (decide (chk es = 0) && wayOk ev)
def fsize (n ev : Int) (ah : Bool) : Int := if n = 0 then 0 else n + (n - 1).tdiv ev + (if ah then 1 else 0)
theorem wayOk_iff {ev : Int} : wayOk ev = true ↔ 1 ≤ ev ∧ ev ≤ 64 := by simp [wayOk]
theorem fck_iff {prev ev : Int} {es : List Int} : fck prev es ev = true ↔ prev ≤ 1 ∧ chk es = 0 ∧ 1 ≤ ev ∧ ev ≤ 64 := by simp [fck, wayOk]

theorem div_step {ev i : Int} (he : 1 ≤ ev) (hi : 1 ≤ i) : (i.tmod ev = 0 → i / ev = (i - 1) / ev + 1) ∧ (¬ i.tmod ev = 0 → i / ev = (i - 1) / ev) := by
  rw [Int.tmod_eq_emod_of_nonneg (by omega)]
  obtain ⟨k, rfl⟩ : ∃ k : Nat, i = (k : Int) + 1 := ⟨(i - 1).toNat, by omega⟩
  have hm := mod_step he k
  have hu := (Int.ediv_emod_unique (a := (k : Int)) (b := ev) (r := (k : Int) % ev) (q := (k : Int) / ev) (by omega)).1 ⟨rfl, rfl⟩
  rw [Int.add_sub_cancel]
  constructor
  · intro h
    refine ((Int.ediv_emod_unique (r := 0) (by omega)).2 ⟨?_, by omega, by omega⟩).1
    rw [Int.mul_add, Int.mul_one]
    omega
  · intro h
    exact ((Int.ediv_emod_unique (r := (k : Int) % ev + 1) (by omega)).2 ⟨by omega, by omega, by omega⟩).1
def SizeV (m0 ev : Int) (ah : Bool) : Value := if (0 ≤ m0 ∧ m0 ≤ 65536) ∧ wayOk ev = true then .tuple #[.int .i64 (fsize m0 ev ah), .int .i64 0] else .tuple #[.int .i64 0, .int .i64 2]
def sizeN (m0 ev : Int) (ah : Bool) : Int × Int := if (0 ≤ m0 ∧ m0 ≤ 65536) ∧ wayOk ev = true then (fsize m0 ev ah, 0) else (0, 2)
theorem SizeV_eq (m0 ev : Int) (ah : Bool) : SizeV m0 ev ah = .tuple #[.int .i64 (sizeN m0 ev ah).1, .int .i64 (sizeN m0 ev ah).2] := by
  unfold SizeV sizeN; split <;> rfl
theorem fsize_le {m ev : Int} {ah : Bool} (h : 0 ≤ m) (he : 1 ≤ ev) : m ≤ fsize m ev ah ∧ fsize m ev ah ≤ 2 * m + 1 := by
  unfold fsize
  split
  · omega
  · have t1 : 0 ≤ (m - 1).tdiv ev := Int.tdiv_nonneg (by omega) (by omega)
    have t2 : (m - 1).tdiv ev ≤ m - 1 := by rw [Int.tdiv_eq_ediv_of_nonneg (by omega)]; exact Int.ediv_le_self _ (by omega)
    split <;> omega
/-- What Put answers. -/
def putV (prev : Int) (es : List Int) (ev : Int) (ah : Bool) : List Int × Int := if fck prev es ev = true ∧ fsize es.length ev ah ≤ 65536 then (putS ev prev (if ah then 0 else ev) es, 0) else ([], 2)
/-- What Get answers. -/
def getV (prev : Int) (es : List Int) (ev : Int) (ah : Bool) : List Int × Int := if fck prev es ev = true then (match getS ev prev (if ah then 0 else ev) false es with | none => ([], 4) | some (_, true) => ([], 7) | some (o, false) => (o, 0)) else ([], 2)
def lastAt (prev : Int) (es : List Int) (k : Nat) : Int := if (k : Int) > 0 then es.getD ((k : Int) - 1).toNat 0 else prev
theorem lastAt_succ {prev : Int} {es : List Int} {k : Nat} : lastAt prev es (k + 1) = es.getD k 0 := by
  unfold lastAt
  rw [if_pos (by omega)]
  congr 1; omega
def leftR (ev : Int) (due : Bool) (L : Nat) : Int := if due then 0 else ev - (L : Int) % ev
/-- What the reference's loop knows. -/
structure QI (ev prev : Int) (ah : Bool) (es : List Int) (k : Nat) (d due : Bool) (out : List Int) : Prop where
  gi : GI ev prev (if ah then 0 else ev) es k (lastAt prev es k) (leftR ev due out.length) d out
  dz : due = true → (out.length : Int) % ev = 0
theorem QI.start {ev prev : Int} {ah : Bool} {es : List Int} (he : 1 ≤ ev) (h0 : 0 ≤ prev) (h1 : prev ≤ 1) : QI ev prev ah es 0 false ah [] := by
  have hl : lastAt prev es 0 = prev := if_neg (by omega)
  have hr : leftR ev ah 0 = if ah then 0 else ev := by unfold leftR; simp
  exact ⟨⟨Nat.zero_le _, by simp [hl, hr, pre], Nat.le_refl _, by rw [hl]; exact h0, by rw [hl]; exact h1, by simp only [List.length_nil, hr]; split <;> omega, by simp only [List.length_nil, hr]; split <;> omega⟩, fun _ => by simp⟩
theorem QI.see {ev prev : Int} {ah : Bool} {es : List Int} {k : Nat} {d due' : Bool} {out : List Int} (h : QI ev prev ah es k d false out) (hk : k < es.length) (he : 1 ≤ ev) (hb : 0 ≤ es.getD k 0 ∧ es.getD k 0 ≤ 1) (hd : due' = decide (((out.length : Int) + 1).tmod ev = 0)) :
    QI ev prev ah es (k + 1) false due' (out ++ [es.getD k 0]) := by
  have hm := mod_step he out.length
  have hl := Int.emod_lt_of_pos (out.length : Int) (show (0 : Int) < ev by omega)
  have hg := h.gi.see hk he hb (by unfold leftR; simp; omega)
  rw [Int.tmod_eq_emod_of_nonneg (by omega)] at hd
  have e1 : ((out ++ [es.getD k 0]).length : Int) = out.length + 1 := by simp
  have hr : leftR ev due' (out ++ [es.getD k 0]).length = leftR ev false out.length - 1 := by
    unfold leftR
    rw [e1, hd]
    simp only [decide_eq_true_eq, Bool.false_eq_true, if_false]
    generalize (out.length : Int) % ev = r at hm ⊢
    generalize ((out.length : Int) + 1) % ev = s at hm ⊢
    split <;> omega
  refine ⟨?_, fun h => ?_⟩
  · rw [lastAt_succ, hr]; exact hg
  · rw [e1]; rw [hd] at h; simpa using h
theorem QI.stuff {ev prev : Int} {ah : Bool} {es : List Int} {k : Nat} {d : Bool} {out : List Int} (h : QI ev prev ah es k d true out) (hk : k < es.length) (he : 1 ≤ ev) (hb : 0 ≤ es.getD k 0 ∧ es.getD k 0 ≤ 1) (hd : ¬ es.getD k 0 = lastAt prev es k) :
    QI ev prev ah es (k + 1) true false out := by
  have hg := h.gi.stuff hk he rfl hd
  have h0 := h.gi.l0
  have h1 := h.gi.l1
  refine ⟨?_, fun h => by cases h⟩
  have hr : leftR ev false out.length = ev := by unfold leftR; rw [h.dz rfl]; simp
  rw [lastAt_succ, hr]
  rw [show es.getD k 0 = 1 - lastAt prev es k by omega]
  exact hg
theorem getV_bad {prev ev : Int} {es : List Int} {ah : Bool} (hf : fck prev es ev = false) : getV prev es ev ah = ([], 2) := by unfold getV; rw [hf]; rfl
theorem getV_none {prev ev : Int} {es : List Int} {ah : Bool} (hf : fck prev es ev = true) (h : getS ev prev (if ah then 0 else ev) false es = none) : getV prev es ev ah = ([], 4) := by unfold getV; rw [hf, if_pos rfl, h]
theorem getV_more {prev ev : Int} {es o : List Int} {ah : Bool} (hf : fck prev es ev = true) (h : getS ev prev (if ah then 0 else ev) false es = some (o, true)) : getV prev es ev ah = ([], 7) := by unfold getV; rw [hf, if_pos rfl, h]
theorem getV_ok {prev ev : Int} {es o : List Int} {ah : Bool} (hf : fck prev es ev = true) (h : getS ev prev (if ah then 0 else ev) false es = some (o, false)) : getV prev es ev ah = (o, 0) := by unfold getV; rw [hf, if_pos rfl, h]
theorem putV_bad {prev ev : Int} {es : List Int} {ah : Bool} (h : ¬ (fck prev es ev = true ∧ fsize es.length ev ah ≤ 65536)) : putV prev es ev ah = ([], 2) := if_neg h
theorem putV_ok {prev ev : Int} {es : List Int} {ah : Bool} (h : fck prev es ev = true) (h2 : fsize es.length ev ah ≤ 65536) : putV prev es ev ah = (putS ev prev (if ah then 0 else ev) es, 0) := if_pos ⟨h, h2⟩

/-- A number's tally. -/
def tallyT : Nat → List Int
  | 0 => [0, 0, 0, 0] | 1 => [0, 0, 1, 1] | 2 => [0, 1, 1, 0] | 3 => [0, 1, 0, 1] | 4 => [1, 1, 0, 0] | 5 => [1, 1, 1, 1] | 6 => [1, 0, 1, 0] | _ => [1, 0, 0, 1]
def tellsT (es : List Int) : Option Nat := (List.range 8).find? fun m => tallyT m == es
def tellsV (es : List Int) : Int × Int := if es.length = 4 ∧ chk es = 0 then (match tellsT es with | some m => ((m : Int), 0) | none => (0, 6)) else (0, 2)
theorem tellsT_some {es : List Int} {m : Nat} (h : ∀ j, j < m → tallyT j ≠ es) (hm : m < 8) (e : tallyT m = es) : tellsT es = some m := by
  unfold tellsT
  rw [List.find?_range_eq_some]
  exact ⟨by simpa using e, by simpa using hm, fun j hj => by simpa using h j hj⟩
theorem tellsT_none {es : List Int} (h : ∀ j, j < 8 → tallyT j ≠ es) : tellsT es = none := by
  unfold tellsT
  rw [List.find?_range_eq_none]
  intro j hj
  simpa using h j hj
theorem tells_of {es : List Int} (h4 : es.length = 4) (hb : Bit es) : es = bitsS (numS 0 es) 4 ∧ 0 ≤ numS 0 es ∧ numS 0 es < 16 := by
  have h := bits_num hb
  rw [h4] at h
  have := numS_lt hb (Nat.le_of_eq h4)
  exact ⟨h.symm, this.1, by simpa using this.2⟩
theorem putS_len (ev : Int) : ∀ (l : List Int) (last left : Int), (putS ev last left l).length ≤ 2 * l.length
  | [], _, _ => Nat.le_refl _
  | b :: l, last, left => by
    unfold putS
    split
    · have := putS_len ev l b (ev - 1); simp; omega
    · have := putS_len ev l b (left - 1); simp; omega
theorem putV_len {prev ev : Int} {es : List Int} {ah : Bool} : (putV prev es ev ah).1.length ≤ 2 * es.length := by
  unfold putV
  split
  · exact putS_len _ _ _ _
  · simp
theorem getS_len (ev : Int) : ∀ (l : List Int) (last left : Int) (d : Bool) (o : List Int × Bool), getS ev last left d l = some o → o.1.length ≤ l.length
  | [], _, _, _, o, h => by cases h; exact Nat.le_refl _
  | b :: l, last, left, d, o, h => by
    unfold getS at h
    split at h
    · split at h
      · cases h
      · have := getS_len ev l _ _ _ o h; simp; omega
    · obtain ⟨q, hq, rfl⟩ := Option.map_eq_some_iff.1 h
      have := getS_len ev l _ _ _ q hq
      simp; omega
theorem getV_len {prev ev : Int} {es : List Int} {ah : Bool} : (getV prev es ev ah).1.length ≤ es.length := by
  unfold getV
  split
  · split
    · simp
    · simp
    · rename_i o h; exact getS_len _ _ _ _ _ _ h
  · simp
theorem putA : putV 1 [1, 1, 1, 1, 1] 4 true = ([0, 1, 1, 1, 1, 0, 1], 0) := by decide
theorem tallyA : tallyT (Int.tmod 2 8).toNat = [0, 1, 1, 0] := by decide
theorem putV_le (prev : Int) (es : List Int) (ev : Int) (ah : Bool) : (putV prev es ev ah).1.length ≤ 131072 := by
  unfold putV
  split
  · rename_i h
    have := (chk_zero.1 (fck_iff.1 h.1).2.1).1
    have := putS_len ev es prev (if ah then 0 else ev)
    show (putS ev prev (if ah then 0 else ev) es).length ≤ 131072
    omega
  · simp
theorem getV_le (prev : Int) (es : List Int) (ev : Int) (ah : Bool) : (getV prev es ev ah).1.length ≤ 65536 := by
  cases h : fck prev es ev with
  | true =>
    have := (chk_zero.1 (fck_iff.1 h).2.1).1
    have := getV_len (prev := prev) (es := es) (ev := ev) (ah := ah)
    omega
  | false => rw [getV_bad h]; simp
end Go.Proofs.Ytdcahmifalabnaa.M
