/- Fixed stuff bits: plain laws. -/
import Derived.Test.YtdcahmifalabnaaP4
set_option linter.unusedVariables false
set_option linter.unusedSimpArgs false
namespace Go.Proofs.Ytdcahmifalabnaa.M
open Go Go.Sep Go.Proofs

theorem putS_bit (ev : Int) : ∀ (l : List Int) (last left : Int), 0 ≤ last → last ≤ 1 → Bit l → Bit (putS ev last left l)
  | [], _, _, _, _, _ => Bit.nil
  | b :: l, last, left, h0, h1, hb => by
    obtain ⟨⟨b0, b1⟩, hl⟩ := hb.cons
    unfold putS
    split
    · exact Bit.mk (by omega) (by omega) (Bit.mk b0 b1 (putS_bit ev l b _ b0 b1 hl))
    · exact Bit.mk b0 b1 (putS_bit ev l b _ b0 b1 hl)
theorem getS_bit (ev : Int) : ∀ (l : List Int) (last left : Int) (d : Bool) (o : List Int × Bool), Bit l → getS ev last left d l = some o → Bit o.1
  | [], _, _, _, o, _, h => by cases h; exact Bit.nil
  | b :: l, last, left, d, o, hb, h => by
    obtain ⟨⟨b0, b1⟩, hl⟩ := hb.cons
    unfold getS at h
    split at h
    · split at h
      · cases h
      · exact getS_bit ev l _ _ _ o hl h
    · obtain ⟨q, hq, rfl⟩ := Option.map_eq_some_iff.1 h
      exact Bit.mk b0 b1 (getS_bit ev l _ _ _ q hl hq)
theorem div_add {n ev : Int} (he : 1 ≤ ev) : (n - ev) / ev + 1 = n / ev := by
  rw [Int.sub_ediv_of_dvd _ (Int.dvd_refl ev), Int.ediv_self (by omega)]; omega
theorem div_neg {n ev : Int} (he : 1 ≤ ev) (h0 : 0 < n) (h1 : n ≤ ev) : (0 - n) / ev + 1 = 0 := by
  have := (Int.ediv_emod_unique (a := 0 - n) (b := ev) (r := ev - n) (q := -1) (by omega)).2 ⟨by omega, by omega, by omega⟩
  omega
theorem putS_length (ev : Int) (he : 1 ≤ ev) : ∀ (l : List Int) (last left : Int), 0 ≤ left → left ≤ ev → ((putS ev last left l).length : Int) = l.length + (if l.length = 0 then 0 else ((l.length : Int) - 1 - left) / ev + 1)
  | [], _, _, _, _ => by simp [putS]
  | b :: l, last, left, h0, h1 => by
    have e1 : ((b :: l).length : Int) = l.length + 1 := by simp
    have e0 : ¬ (b :: l).length = 0 := by simp
    rw [if_neg e0, e1]
    by_cases hz : left = 0
    · subst hz
      rw [putS, if_pos rfl]
      have ih := putS_length ev he l b (ev - 1) (by omega) (by omega)
      have e2 : (((1 - last) :: b :: putS ev b (ev - 1) l).length : Int) = (putS ev b (ev - 1) l).length + 2 := by simp; omega
      have e3 : ((l.length : Int) + 1 - 1 - 0) = l.length := by omega
      have e4 : ((l.length : Int) - 1 - (ev - 1)) = l.length - ev := by omega
      rw [e2, ih, e3, e4]
      by_cases hl : l.length = 0
      · rw [if_pos hl, hl]; simp
      · rw [if_neg hl, div_add he]; omega
    · rw [putS, if_neg hz]
      have ih := putS_length ev he l b (left - 1) (by omega) (by omega)
      have e2 : ((b :: putS ev b (left - 1) l).length : Int) = (putS ev b (left - 1) l).length + 1 := by simp
      have e3 : ((l.length : Int) - 1 - (left - 1)) = l.length + 1 - 1 - left := by omega
      rw [e2, ih, e3]
      by_cases hl : l.length = 0
      · rw [if_pos hl, hl]
        have := div_neg (n := left) he (by omega) h1
        have e5 : (((0 : Nat) : Int) + 1 - 1 - left) = 0 - left := by omega
        rw [e5, this]; simp
      · rw [if_neg hl]; omega
theorem putS_fsize {ev prev : Int} {ah : Bool} {es : List Int} (he : 1 ≤ ev) : ((putS ev prev (if ah then 0 else ev) es).length : Int) = fsize es.length ev ah := by
  rw [putS_length ev he _ _ _ (by split <;> omega) (by split <;> omega)]
  unfold fsize
  by_cases h : es.length = 0
  · rw [if_pos h, if_pos (by omega), h]; rfl
  · rw [if_neg h, if_neg (c := (es.length : Int) = 0) (by omega), Int.tdiv_eq_ediv_of_nonneg (by omega)]
    cases ah with
    | true =>
      rw [if_pos rfl, if_pos rfl]
      have e3 : ((es.length : Int) - 1 - 0) = es.length - 1 := by omega
      rw [e3]; omega
    | false =>
      rw [if_neg (c := false = true) (by decide), if_neg (c := false = true) (by decide)]
      have := div_add (n := (es.length : Int) - 1) he
      omega
/-- What is put is got. -/
theorem get_put (ev : Int) (he : 1 ≤ ev) : ∀ (l : List Int) (last left : Int) (d : Bool), Bit l → getS ev last left d (putS ev last left l) = some (l, if l.isEmpty then d else false)
  | [], _, _, _, _ => by simp [putS, getS]
  | b :: l, last, left, d, hb => by
    obtain ⟨⟨b0, b1⟩, hl⟩ := hb.cons
    have key : ∀ (x : Int) (f : Bool), (getS ev b x f (putS ev b x l)).map (fun p => (b :: p.1, p.2)) = some (b :: l, if l.isEmpty then f else false) := by
      intro x f; rw [get_put ev he l b x f hl]; rfl
    unfold putS
    split
    · rename_i h
      rw [getS, if_pos h, if_neg (by omega), getS, if_neg (by omega), key]
      cases l <;> simp
    · rename_i h
      rw [getS, if_neg h, key]
      cases l <;> simp
/-- What is got was put. -/
theorem put_get (ev : Int) (he : 1 ≤ ev) : ∀ (l : List Int) (last left : Int) (d : Bool) (y : List Int), 0 ≤ last → last ≤ 1 → Bit l → getS ev last left d l = some (y, false) → putS ev last left y = l
  | [], _, _, _, y, _, _, _, h => by cases h; rfl
  | b :: l, last, left, d, y, h0, h1, hb, h => by
    obtain ⟨⟨b0, b1⟩, hl⟩ := hb.cons
    rw [getS] at h
    split at h
    · rename_i hz
      split at h
      · cases h
      · rename_i hne
        match l, hl, h with
        | [], _, h => cases h
        | b2 :: l2, hl, h =>
          obtain ⟨⟨c0, c1⟩, hl2⟩ := hl.cons
          rw [getS, if_neg (by omega)] at h
          obtain ⟨q, hq, hq2⟩ := Option.map_eq_some_iff.1 h
          obtain ⟨q1, q2⟩ := q
          simp only [Prod.mk.injEq] at hq2
          obtain ⟨rfl, rfl⟩ := hq2
          rw [putS, if_pos hz, put_get ev he l2 b2 (ev - 1) false q1 c0 c1 hl2 hq]
          congr 1; omega
    · rename_i hz
      obtain ⟨q, hq, hq2⟩ := Option.map_eq_some_iff.1 h
      obtain ⟨q1, q2⟩ := q
      simp only [Prod.mk.injEq] at hq2
      obtain ⟨rfl, rfl⟩ := hq2
      rw [putS, if_neg hz, put_get ev he l b (left - 1) false q1 b0 b1 hl hq]

theorem putV_fit {prev ev : Int} {es x : List Int} {ah : Bool} (p0 : 0 ≤ prev) (hB : Byte es) (h : putV prev es ev ah = (x, 0)) : getV prev x ev ah = (es, 0) ∧ sizeN es.length ev ah = ((x.length : Int), 0) ∧ x = putS ev prev (if ah then 0 else ev) es ∧ prev ≤ 1 ∧ 1 ≤ ev ∧ ev ≤ 64 ∧ Bit es := by
  by_cases hc : fck prev es ev = true ∧ fsize es.length ev ah ≤ 65536
  · rw [putV_ok hc.1 hc.2] at h
    cases h
    obtain ⟨p1, hz, e1, e2⟩ := fck_iff.1 hc.1
    have hz := chk_zero.1 hz
    have hb := bit_of hB hz.2
    have hlen := putS_fsize (prev := prev) (ah := ah) (es := es) e1
    have hf : fck prev (putS ev prev (if ah then 0 else ev) es) ev = true := fck_iff.2 ⟨p1, chk_zero.2 ⟨by omega, (putS_bit ev es prev _ p0 p1 hb).good⟩, e1, e2⟩
    refine ⟨?_, ?_, rfl, p1, e1, e2, hb⟩
    · have := get_put ev e1 es prev (if ah then 0 else ev) false hb
      simp only [ite_self] at this
      exact getV_ok hf this
    · unfold sizeN
      rw [if_pos ⟨⟨by omega, by omega⟩, wayOk_iff.2 ⟨e1, e2⟩⟩, hlen]
  · rw [putV_bad hc] at h; cases h
theorem getV_err {prev ev : Int} {es : List Int} {ah : Bool} (h : (getV prev es ev ah).2 ≠ 0) : (getV prev es ev ah).1 = [] := by
  unfold getV at h ⊢
  split
  · split
    · rfl
    · rfl
    · rename_i hh _ _ g; rw [if_pos hh, g] at h; exact absurd rfl h
  · rfl
theorem getV_fit {prev ev : Int} {es y : List Int} {ah : Bool} (p0 : 0 ≤ prev) (hB : Byte es) (h : getV prev es ev ah = (y, 0)) : putV prev y ev ah = (es, 0) ∧ Byte y := by
  cases hf : fck prev es ev with
  | false => rw [getV_bad hf] at h; cases h
  | true =>
    obtain ⟨p1, hz, e1, e2⟩ := fck_iff.1 hf
    have hz := chk_zero.1 hz
    have hb := bit_of hB hz.2
    cases hg : getS ev prev (if ah then 0 else ev) false es with
    | none => rw [getV_none hf hg] at h; cases h
    | some o =>
      obtain ⟨o, d⟩ := o
      cases d with
      | true => rw [getV_more hf hg] at h; cases h
      | false =>
        rw [getV_ok hf hg] at h
        have e : o = y := (Prod.mk.inj h).1
        subst e
        have hp := put_get ev e1 es prev _ false o p0 p1 hb hg
        have hbo : Bit o := getS_bit ev es _ _ _ _ hb hg
        have hlo := getS_len ev es _ _ _ _ hg
        have hlen := putS_fsize (prev := prev) (ah := ah) (es := o) e1
        rw [hp] at hlen
        refine ⟨?_, hbo.byte⟩
        rw [putV_ok (fck_iff.2 ⟨p1, chk_zero.2 ⟨by simp at hlo; omega, hbo.good⟩, e1, e2⟩) (by omega), hp]

/-- The places of stuff bits in so many raw ones, from a place on. -/
def plr (ev : Int) : Int → Int → Nat → List Int
  | _, _, 0 => []
  | left, i, m + 1 => if left = 0 then i :: plr ev ev (i + 1) m else plr ev (left - 1) (i + 1) m
theorem plr_count (ev : Int) : ∀ (l : List Int) (last left i : Int) (d : Bool) (o : List Int × Bool), getS ev last left d l = some o → (plr ev left i l.length).length + o.1.length = l.length
  | [], _, _, _, _, o, h => by cases h; rfl
  | b :: l, last, left, i, d, o, h => by
    unfold getS at h
    rw [List.length_cons, plr]
    split at h
    · rename_i hz
      split at h
      · cases h
      · rw [if_pos hz]
        have := plr_count ev l (1 - last) ev (i + 1) true o h
        simp only [List.length_cons]; omega
    · rename_i hz
      obtain ⟨q, hq, rfl⟩ := Option.map_eq_some_iff.1 h
      have := plr_count ev l b (left - 1) (i + 1) false q hq
      rw [if_neg hz]; simp only [List.length_cons]; omega
theorem plr_ge (ev : Int) : ∀ (m : Nat) (left i k : Int), k ∈ plr ev left i m → i ≤ k ∧ k < i + m
  | 0, _, _, _, h => by cases h
  | m + 1, left, i, k, h => by
    rw [plr] at h
    split at h
    · rcases List.mem_cons.1 h with rfl | h
      · omega
      · have := plr_ge ev m _ _ k h; omega
    · have := plr_ge ev m _ _ k h; omega
theorem turn_none (ev : Int) : ∀ (l : List Int) (last left i : Int) (d : Bool) (o : List Int × Bool) (j : Nat), 0 ≤ last → last ≤ 1 → Bit l → getS ev last left d l = some o → i + j ∈ plr ev left i l.length → getS ev last left d (l.set j (1 - l.getD j 0)) = none
  | [], _, _, _, _, _, _, _, _, _, _, h => by cases h
  | b :: l, last, left, i, d, o, j, h0, h1, hb, h, hj => by
    obtain ⟨⟨b0, b1⟩, hl⟩ := hb.cons
    rw [List.length_cons, plr] at hj
    unfold getS at h
    split at h
    · rename_i hz
      split at h
      · cases h
      · rename_i hne
        rw [if_pos hz] at hj
        cases j with
        | zero => simp only [List.set_cons_zero, List.getD_cons_zero]; rw [getS, if_pos hz, if_pos (by omega)]
        | succ j =>
          simp only [List.set_cons_succ, List.getD_cons_succ]
          rw [getS, if_pos hz, if_neg hne]
          refine turn_none ev l (1 - last) ev (i + 1) true o j (by omega) (by omega) hl h ?_
          rcases List.mem_cons.1 hj with e | hj
          · omega
          · have : i + 1 + (j : Int) = i + ((j + 1 : Nat) : Int) := by omega
            rw [this]; exact hj
    · rename_i hz
      rw [if_neg hz] at hj
      obtain ⟨q, hq, rfl⟩ := Option.map_eq_some_iff.1 h
      cases j with
      | zero => have := plr_ge ev _ _ _ _ hj; omega
      | succ j =>
        simp only [List.set_cons_succ, List.getD_cons_succ]
        rw [getS, if_neg hz]
        have : i + 1 + (j : Int) = i + ((j + 1 : Nat) : Int) := by omega
        rw [turn_none ev l b (left - 1) (i + 1) false q j b0 b1 hl hq (by rw [this]; exact hj)]
        rfl
end Go.Proofs.Ytdcahmifalabnaa.M
