/- Fixed stuff bits: parts. -/
import Derived.Test.YtdcahmifalabnaaP4c
set_option linter.unusedVariables false
set_option linter.unusedSimpArgs false
namespace Go.Proofs.Ytdcahmifalabnaa.M
open Go Go.Sep Go.Proofs

def leftN (ev : Int) : Int → Nat → Int
  | left, 0 => left
  | left, m + 1 => leftN ev (if left = 0 then ev - 1 else left - 1) m
theorem leftN_add (ev : Int) : ∀ (a b : Nat) (left : Int), leftN ev left (a + b) = leftN ev (leftN ev left a) b
  | 0, b, left => by simp [leftN]
  | a + 1, b, left => by rw [Nat.succ_add, leftN, leftN, leftN_add ev a b]
theorem leftN_down (ev : Int) : ∀ (m : Nat) (left : Int), (m : Int) ≤ left → leftN ev left m = left - m
  | 0, left, _ => by simp [leftN]
  | m + 1, left, h => by rw [leftN, if_neg (by omega), leftN_down ev m (left - 1) (by omega)]; omega
theorem leftN_turn {ev : Int} {e : Nat} (he : ev = e) (h1 : 1 ≤ ev) : leftN ev 0 e = 0 ∧ leftN ev ev e = 0 := by
  constructor
  · obtain ⟨d, rfl⟩ : ∃ d, e = d + 1 := ⟨e - 1, by omega⟩
    rw [leftN, if_pos rfl, leftN_down ev d (ev - 1) (by omega)]; omega
  · rw [leftN_down ev e ev (by omega)]; omega
theorem leftN_mul {ev : Int} {e : Nat} (he : ev = e) (h1 : 1 ≤ ev) : ∀ j, leftN ev 0 (j * e) = 0
  | 0 => by simp [leftN]
  | j + 1 => by rw [Nat.succ_mul, leftN_add, leftN_mul he h1 j, (leftN_turn he h1).1]
theorem leftN_part {ev : Int} {e j : Nat} {ah : Bool} (he : ev = e) (h1 : 1 ≤ ev) (hj : 0 < j) : leftN ev (if ah then 0 else ev) (j * e) = 0 := by
  cases ah with
  | true => exact leftN_mul he h1 j
  | false =>
    obtain ⟨d, rfl⟩ : ∃ d, j = d + 1 := ⟨j - 1, by omega⟩
    rw [Nat.succ_mul, Nat.add_comm, leftN_add, if_neg (by decide), (leftN_turn he h1).2, leftN_mul he h1 d]
def lastO : Int → List Int → Int
  | last, [] => last
  | _, b :: l => lastO b l
theorem putS_append (ev : Int) : ∀ (l m : List Int) (last left : Int), putS ev last left (l ++ m) = putS ev last left l ++ putS ev (lastO last l) (leftN ev left l.length) m
  | [], m, last, left => rfl
  | b :: l, m, last, left => by
    rw [List.cons_append, putS, putS, List.length_cons, leftN, lastO]
    split
    · rw [putS_append ev l m]; rfl
    · rw [putS_append ev l m]; rfl
theorem putS_ne {ev last left : Int} {l : List Int} (h : l ≠ []) : putS ev last left l ≠ [] := by
  cases l with
  | nil => exact absurd rfl h
  | cons b l => unfold putS; split <;> simp
theorem getD_cons_last (b : Int) (l : List Int) (h : l ≠ []) : (b :: l).getD ((b :: l).length - 1) 0 = l.getD (l.length - 1) 0 := by
  cases l with
  | nil => exact absurd rfl h
  | cons c l => simp
theorem putS_last (ev : Int) : ∀ (l : List Int) (last left : Int), l ≠ [] → (putS ev last left l).getD ((putS ev last left l).length - 1) 0 = lastO last l
  | [], _, _, h => absurd rfl h
  | [b], last, left, _ => by unfold putS; split <;> simp [putS, lastO]
  | b :: c :: l, last, left, _ => by
    rw [putS, lastO]
    split
    · rw [getD_cons_last _ _ (by simp), getD_cons_last _ _ (putS_ne (by simp)), putS_last ev (c :: l) b _ (by simp)]
    · rw [getD_cons_last _ _ (putS_ne (by simp)), putS_last ev (c :: l) b _ (by simp)]
theorem lastO_bit : ∀ (l : List Int) (last : Int), 0 ≤ last → last ≤ 1 → Bit l → 0 ≤ lastO last l ∧ lastO last l ≤ 1
  | [], _, h0, h1, _ => ⟨h0, h1⟩
  | b :: l, _, _, _, hb => lastO_bit l b hb.cons.1.1 hb.cons.1.2 hb.cons.2
theorem putV_small {prev ev : Int} {es : List Int} {ah : Bool} (p1 : prev ≤ 1) (hb : Bit es) (e1 : 1 ≤ ev) (e2 : ev ≤ 64) (hl : es.length ≤ 2000) : putV prev es ev ah = (putS ev prev (if ah then 0 else ev) es, 0) := by
  have := fsize_le (m := es.length) (ev := ev) (ah := ah) (by omega) e1
  exact putV_ok (fck_iff.2 ⟨p1, chk_zero.2 ⟨by omega, hb.good⟩, e1, e2⟩) (by omega)
/-- Whole parts, one behind the other, are the whole. -/
theorem parts_law {prev ev p : Int} {es : List Int} {ah : Bool} {k n : Nat} (p0 : 0 ≤ prev) (p1 : prev ≤ 1) (hb : Bit es) (e1 : 1 ≤ ev) (e2 : ev ≤ 64) (hl : es.length ≤ 2000) (hn : n = es.length) (q0 : 0 ≤ p)
    (hk : min (p * ev) ((n : Int).tdiv ev * ev) = (k : Int)) :
    k ≤ n ∧ ∃ W A, putV prev es ev ah = (W, 0) ∧ putV prev (es.take k) ev ah = (A, 0) ∧ A.length ≤ 4000 ∧ W.length ≤ 4000 ∧ (0 < k → A ≠ [] ∧ 0 ≤ A.getD (A.length - 1) 0 ∧ A.getD (A.length - 1) 0 ≤ 1 ∧ ∃ B, putV (A.getD (A.length - 1) 0) (es.drop k) ev true = (B, 0) ∧ B.length ≤ 4000 ∧ W = A ++ B) := by
  have hdv : (n : Int).tdiv ev * ev ≤ n := by rw [Int.tdiv_eq_ediv_of_nonneg (by omega)]; exact Int.ediv_mul_le _ (by omega)
  have hd0 : 0 ≤ (n : Int).tdiv ev := Int.tdiv_nonneg (by omega) (by omega)
  have hkn : k ≤ n := by omega
  obtain ⟨e, he⟩ : ∃ e : Nat, ev = e := ⟨ev.toNat, by omega⟩
  have hj : ∃ j : Nat, k = j * e := by
    rcases (by omega : (k : Int) = p * ev ∨ (k : Int) = (n : Int).tdiv ev * ev) with h | h
    · refine ⟨p.toNat, ?_⟩
      have : (k : Int) = ((p.toNat * e : Nat) : Int) := by rw [h, he, Int.natCast_mul, Int.toNat_of_nonneg q0]
      omega
    · refine ⟨((n : Int).tdiv ev).toNat, ?_⟩
      have : (k : Int) = ((((n : Int).tdiv ev).toNat * e : Nat) : Int) := by rw [h, Int.natCast_mul, Int.toNat_of_nonneg hd0, ← he]
      omega
  obtain ⟨j, hj⟩ := hj
  have hlA := putS_len ev (es.take k) prev (if ah then 0 else ev)
  have hlW := putS_len ev es prev (if ah then 0 else ev)
  have htk : (es.take k).length = k := by rw [List.length_take]; omega
  refine ⟨hkn, _, _, putV_small p1 hb e1 e2 hl, putV_small p1 hb.take e1 e2 (by omega), by omega, by omega, fun hk0 => ?_⟩
  have hne : es.take k ≠ [] := fun h => by rw [h] at htk; simp at htk; omega
  have hlo := lastO_bit (es.take k) prev p0 p1 hb.take
  rw [putS_last ev _ _ _ hne]
  have hlB := putS_len ev (es.drop k) (lastO prev (es.take k)) 0
  have hdk : (es.drop k).length ≤ 2000 := by rw [List.length_drop]; omega
  refine ⟨putS_ne hne, hlo.1, hlo.2, _, putV_small hlo.2 hb.drop e1 e2 hdk, by simp only [if_true]; omega, ?_⟩
  have := putS_append ev (es.take k) (es.drop k) prev (if ah then 0 else ev)
  rw [List.take_append_drop, htk, hj, leftN_part he e1 (by rcases Nat.eq_zero_or_pos j with h | h; (rw [h] at hj; omega); exact h)] at this
  rw [this, hj]; rfl
end Go.Proofs.Ytdcahmifalabnaa.M
