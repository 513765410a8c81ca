/- The check sums' laws: going on, turned bits, bursts, differences. -/
import Derived.Test.YtmdmlhhhaidebaaP2
set_option linter.unusedVariables false
set_option linter.unusedSimpArgs false
namespace Go.Sep
open Go
theorem step00 (z p : Nat) : stepN z p 0 0 = 0 := by
  unfold stepN
  rw [Nat.zero_div, Nat.zero_mod, if_pos (by rfl), Nat.mul_zero, Nat.zero_mod]
theorem crc_zeros (z p : Nat) : ∀ k, crcN z p 0 (List.replicate k 0) = 0
  | 0 => rfl
  | k + 1 => by rw [List.replicate_succ, crcN_cons, step00, crc_zeros z p k]
theorem xorb {a b : Int} (ha : 0 ≤ a ∧ a ≤ 1) (hb : 0 ≤ b ∧ b ≤ 1) : xorI .u8 a b = bx a b := by
  obtain rfl | rfl : a = 0 ∨ a = 1 := by omega
  all_goals obtain rfl | rfl : b = 0 ∨ b = 1 := by omega
  all_goals rfl
theorem bx_bit {a b : Int} : 0 ≤ bx a b ∧ bx a b ≤ 1 := by unfold bx; split <;> omega
def turnL (x : List Int) (k : Nat) (w : List Int) : List Int := List.zipWith bx x (List.replicate k 0 ++ w ++ List.replicate (x.length - k - w.length) 0)
theorem turnL_nil {x : List Int} {k : Nat} (h : Bit x) (hk : k ≤ x.length) : turnL x k [] = x := by
  unfold turnL
  rw [List.append_nil, List.replicate_append_replicate, show k + (x.length - k - ([] : List Int).length) = x.length by simp; omega]
  exact (bx_zeros x h).2
theorem turnL_len {x w : List Int} {k : Nat} (h : k + w.length ≤ x.length) : (turnL x k w).length = x.length := by
  unfold turnL
  rw [List.length_zipWith, List.length_append, List.length_append, List.length_replicate, List.length_replicate]
  omega
theorem zip_get {a b : List Int} {i : Nat} (h1 : i < a.length) (h2 : i < b.length) : (List.zipWith bx a b).getD i 0 = bx (a.getD i 0) (b.getD i 0) := by
  rw [List.getD_eq_getElem?_getD, List.getD_eq_getElem?_getD, List.getD_eq_getElem?_getD, List.getElem?_eq_getElem h1, List.getElem?_eq_getElem h2, List.getElem?_eq_getElem (by rw [List.length_zipWith]; omega), List.getElem_zipWith]
  rfl
theorem ext_getD {a b : List Int} (hl : a.length = b.length) (h : ∀ i, i < a.length → a.getD i 0 = b.getD i 0) : a = b := by
  refine List.ext_getElem hl fun i h1 h2 => ?_
  have := h i h1
  rwa [List.getD_eq_getElem?_getD, List.getD_eq_getElem?_getD, List.getElem?_eq_getElem h1, List.getElem?_eq_getElem h2] at this
theorem mid_get {k m i : Nat} {w : List Int} (h : i < k + w.length + m) : (List.replicate k 0 ++ w ++ List.replicate m 0).getD i 0 = if i < k then 0 else if i < k + w.length then w.getD (i - k) 0 else 0 := by
  rw [List.getD_eq_getElem?_getD, List.append_assoc, List.getElem?_append, List.length_replicate]
  split
  · rename_i h1; rw [List.getElem?_replicate, if_pos h1]; rfl
  · rename_i h1
    rw [List.getElem?_append]
    by_cases h2 : i - k < w.length
    · rw [if_pos h2, if_pos (by omega), List.getD_eq_getElem?_getD]
    · rw [if_neg h2, if_neg (by omega), List.getElem?_replicate]
      split <;> rfl
theorem turnL_get {x w : List Int} {k i : Nat} (h : k + w.length ≤ x.length) (hi : i < x.length) : (turnL x k w).getD i 0 = bx (x.getD i 0) (if i < k then 0 else if i < k + w.length then w.getD (i - k) 0 else 0) := by
  unfold turnL
  rw [zip_get hi (by simp only [List.length_append, List.length_replicate]; omega), mid_get (by omega)]
theorem turnL_next {x w : List Int} {k : Nat} (hx : Bit x) (h : k + w.length < x.length) : (turnL x k w).getD (k + w.length) 0 = x.getD (k + w.length) 0 := by
  rw [turnL_get (by omega) h, if_neg (by omega), if_neg (by omega)]
  exact (bx_zero (hx _)).2
theorem turnL_snoc {x w : List Int} {k : Nat} {b : Int} (h : k + w.length < x.length) : (turnL x k w).set (k + w.length) (bx (x.getD (k + w.length) 0) b) = turnL x k (w ++ [b]) := by
  have hl1 := turnL_len (x := x) (w := w) (k := k) (by omega)
  have hl2 := turnL_len (x := x) (w := w ++ [b]) (k := k) (by rw [List.length_append, List.length_singleton]; omega)
  refine ext_getD (by rw [List.length_set, hl1, hl2]) fun i hi => ?_
  rw [List.length_set, hl1] at hi
  rw [turnL_get (by rw [List.length_append, List.length_singleton]; omega) hi, List.length_append, List.length_singleton]
  rw [List.getD_eq_getElem?_getD, List.getElem?_set]
  by_cases he : k + w.length = i
  · subst he
    rw [if_pos rfl, if_pos (by omega), if_neg (by omega), if_pos (by omega), Nat.add_sub_cancel_left]
    simp [List.getD_eq_getElem?_getD]
  · rw [if_neg he, ← List.getD_eq_getElem?_getD, turnL_get (by omega) hi]
    by_cases h1 : i < k
    · rw [if_pos h1, if_pos h1]
    · by_cases h2 : i < k + w.length
      · rw [if_neg h1, if_neg h1, if_pos h2, if_pos (by omega)]
        congr 1
        rw [List.getD_eq_getElem?_getD, List.getD_eq_getElem?_getD, List.getElem?_append_left (by omega)]
      · rw [if_neg h1, if_neg h1, if_neg h2, if_neg (by omega)]
theorem turnL_bit {x w : List Int} {k : Nat} : Bit (turnL x k w) := bit_iff.2 fun y hy => by
  unfold turnL at hy
  obtain ⟨i, hi, rfl⟩ := List.mem_iff_getElem.1 hy
  rw [List.getElem_zipWith]
  exact bx_bit
theorem turnL_crc {z p s : Nat} {x w : List Int} {k : Nat} (hx : Bit x) (hw : Bit w) (h : k + w.length ≤ x.length) : crcN z p s (turnL x k w) = crcN z p s x ^^^ crcN z p (crcN z p 0 w) (List.replicate (x.length - k - w.length) 0) := by
  have e := run_xor (z := z) (p := p) x (List.replicate k 0 ++ w ++ List.replicate (x.length - k - w.length) 0) s 0 (by simp only [List.length_append, List.length_replicate]; omega) hx (((bit_rep k).append hw).append (bit_rep _))
  rw [Nat.xor_zero] at e
  unfold turnL
  rw [e, crcN_append, crcN_append, crc_zeros]
theorem fits_zero {m : Int} {y : List Int} (hk : kz m ≠ 0) (hl : kz m ≤ y.length) (hl2 : y.length ≤ 65536) (hy : Bit y) : fitsV m y = decide (crcN (kz m) (kp m) (ks m) y = 0) := by
  have hKO := kind_ok m hk
  have hc := chk_of hy hl2
  rw [fitsV_yes hk hl hc rfl]
  refine decide_eq_decide.2 ?_
  have hd : Bit (y.drop (y.length - kz m)) := hy.drop
  have e := run_own (z := kz m) (p := kp m) (s := crcN (kz m) (kp m) (ks m) (y.take (y.length - kz m))) (l := y.drop (y.length - kz m)) hKO.odd hKO.p (by have := hKO.lo; omega) (by rw [List.length_drop]; omega) hd (crcN_lt hKO.p _ _ hKO.s)
  rw [← crcN_append, List.take_append_drop] at e
  rw [e, ← numN_cast hd]
  constructor
  · intro h; exact_mod_cast h.symm
  · intro h; rw [h]
theorem add_zero {m : Int} {es : List Int} (hk : kz m ≠ 0) (hb : Bit es) : crcN (kz m) (kp m) (ks m) (es ++ bitsS ((crcN (kz m) (kp m) (ks m) es : Nat) : Int) (kz m)) = 0 := by
  have hKO := kind_ok m hk
  have hs := crcN_lt hKO.p es _ hKO.s
  rw [crcN_append]
  refine (run_own hKO.odd hKO.p (by have := hKO.lo; omega) (bitsS_length _ _) (bitsS_bit _ _) hs).2 ?_
  have h1 := num_bits (n := ((crcN (kz m) (kp m) (ks m) es : Nat) : Int)) (s := kz m) (by omega) (by exact_mod_cast hs)
  rw [← numN_cast (bitsS_bit _ _)] at h1
  exact_mod_cast h1.symm
theorem fits_turn {m : Int} {x w : List Int} {k : Nat} (hk : kz m ≠ 0) (hl : kz m ≤ x.length) (hl2 : x.length ≤ 65536) (hx : Bit x) (hw : Bit w) (h : k + w.length ≤ x.length) (h0 : crcN (kz m) (kp m) (ks m) x = 0) : fitsV m (turnL x k w) = decide (crcN (kz m) (kp m) 0 w = 0) := by
  have hKO := kind_ok m hk
  have hlen := turnL_len h
  rw [fits_zero hk (by omega) (by omega) turnL_bit, turnL_crc hx hw h, h0, Nat.zero_xor]
  have hz0 : (0 : Nat) < 2 ^ kz m := Nat.pow_pos (by omega)
  refine decide_eq_decide.2 ⟨fun q => ?_, fun q => ?_⟩
  · exact run_inj hKO.odd hKO.p (by have := hKO.lo; omega) _ _ (crcN_lt hKO.p w 0 hz0) q
  · rw [q, crc_zeros]
theorem turn_one {m : Int} (hk : kz m ≠ 0) : crcN (kz m) (kp m) 0 [1] ≠ 0 ∧ crcN (kz m) (kp m) 0 [1, 1] ≠ 0 := by
  rcases kind_cases m with h | rfl | rfl | rfl | rfl | rfl
  · exact absurd h.1 hk
  all_goals decide +kernel
def blN (b z : Nat) : List Int := (List.range z).map fun i => ((b / 2 ^ i % 2 : Nat) : Int)
theorem blN_len (b z : Nat) : (blN b z).length = z := by simp [blN]
theorem blN_bit (b z : Nat) : Bit (blN b z) := bit_iff.2 fun x hx => by
  obtain ⟨i, _, rfl⟩ := List.mem_map.1 hx
  have := Nat.mod_lt (b / 2 ^ i) (by omega : 2 > 0)
  omega
theorem blN_snoc (b i : Nat) : blN b (i + 1) = blN b i ++ [((b / 2 ^ i % 2 : Nat) : Int)] := by
  unfold blN; rw [List.range_succ, List.map_append]; rfl
theorem numN_zero : ∀ (l : List Int), Bit l → (numN l = 0 ↔ ∀ x ∈ l, x = 0)
  | [], _ => by simp [numN, numS]
  | b :: l, h => by
    have ih := numN_zero l h.cons.2
    have hb := h.cons.1
    have hp : 0 < 2 ^ l.length := Nat.pow_pos (by omega)
    rw [numN_cons h]
    simp only [List.mem_cons, forall_eq_or_imp]
    rw [← ih]
    constructor
    · intro h0
      have h1 : b.toNat * 2 ^ l.length = 0 := by omega
      rcases Nat.mul_eq_zero.1 h1 with h2 | h2
      · exact ⟨by omega, by omega⟩
      · omega
    · rintro ⟨h1, h2⟩
      subst h1
      rw [h2]; simp
theorem blN_zero (b z : Nat) : (∀ x ∈ blN b z, x = 0) ↔ b % 2 ^ z = 0 := by
  have key : (∀ x ∈ blN b z, x = 0) ↔ ∀ i, i < z → b / 2 ^ i % 2 = 0 := by
    constructor
    · intro h i hi
      have := h _ (List.mem_map.2 ⟨i, List.mem_range.2 hi, rfl⟩)
      omega
    · intro h x hx
      obtain ⟨i, hi, rfl⟩ := List.mem_map.1 hx
      have := h i (List.mem_range.1 hi)
      omega
  rw [key]
  constructor
  · intro h
    apply Nat.eq_of_testBit_eq
    intro i
    rw [Nat.testBit_mod_two_pow, Nat.zero_testBit]
    by_cases hi : i < z
    · have := h i hi
      rw [Nat.testBit_eq_decide_div_mod_eq, this]; simp
    · simp [hi]
  · intro h i hi
    have h2 : (b % 2 ^ z).testBit i = false := by rw [h, Nat.zero_testBit]
    rw [Nat.testBit_mod_two_pow, Nat.testBit_eq_decide_div_mod_eq] at h2
    simp [hi] at h2
    exact h2
theorem burst_zero {z p b : Nat} (hp : p % 2 = 1) (hp2 : p < 2 ^ z) (hz : 1 ≤ z) (hb : b < 2 ^ z) : crcN z p 0 (blN b z) = 0 ↔ b = 0 := by
  rw [run_own hp hp2 hz (blN_len b z) (blN_bit b z) (Nat.pow_pos (by omega)), eq_comm, numN_zero _ (blN_bit b z), blN_zero, Nat.mod_eq_of_lt hb]
/-- differences -/
def sumAt (m : Int) (as bs : List Int) : Nat → Nat
  | 0 => crcN (kz m) (kp m) (ks m) as
  | 1 => crcN (kz m) (kp m) (ks m) bs
  | 2 => crcN (kz m) (kp m) (ks m) (List.zipWith bx as bs)
  | _ => crcN (kz m) (kp m) (ks m) (List.replicate as.length 0)
def belN (m : Int) (as bs : List Int) : Nat → Nat
  | 0 => 0
  | k + 1 => belN m as bs k ^^^ sumAt m as bs k
theorem belongs {m : Int} {as bs : List Int} (ha : Bit as) (hb : Bit bs) (hl : as.length = bs.length) : belN m as bs 4 = 0 := by
  show (((0 ^^^ crcN (kz m) (kp m) (ks m) as) ^^^ crcN (kz m) (kp m) (ks m) bs) ^^^ crcN (kz m) (kp m) (ks m) (List.zipWith bx as bs)) ^^^ crcN (kz m) (kp m) (ks m) (List.replicate as.length 0) = 0
  rw [Nat.zero_xor, ← run_xor as bs _ _ hl ha hb, Nat.xor_self]
  have hz : Bit (List.zipWith bx as bs) := bit_iff.2 fun y hy => by
    obtain ⟨i, hi, rfl⟩ := List.mem_iff_getElem.1 hy
    rw [List.getElem_zipWith]
    exact bx_bit
  have hlz : (List.zipWith bx as bs).length = as.length := by rw [List.length_zipWith]; omega
  have hzz : List.zipWith bx (List.zipWith bx as bs) (List.zipWith bx as bs) = List.replicate as.length 0 := by
    refine ext_getD (by rw [List.length_zipWith, List.length_replicate, hlz]; omega) fun i hi => ?_
    rw [List.length_zipWith, hlz] at hi
    rw [zip_get (by omega) (by omega)]
    rw [List.getD_eq_getElem?_getD (l := List.replicate _ _), List.getElem?_replicate, if_pos (by omega)]
    simp [bx]
  have e2 := run_xor (z := kz m) (p := kp m) (List.zipWith bx as bs) (List.zipWith bx as bs) 0 (ks m) rfl hz hz
  rw [hzz, Nat.zero_xor] at e2
  rw [e2, Nat.xor_self]
theorem sum_lt {m : Int} (hk : kz m ≠ 0) (as bs : List Int) : ∀ k, sumAt m as bs k < 2 ^ kz m := by
  have hKO := kind_ok m hk
  intro k
  unfold sumAt
  split <;> exact crcN_lt hKO.p _ _ hKO.s
theorem bel_lt {m : Int} (hk : kz m ≠ 0) (as bs : List Int) : ∀ k, belN m as bs k < 2 ^ kz m
  | 0 => Nat.pow_pos (by omega)
  | k + 1 => Nat.xor_lt_two_pow (bel_lt hk as bs k) (sum_lt hk as bs k)
def diffL (as bs : List Int) (n k : Nat) : List Int := List.zipWith bx (as.take k) (bs.take k) ++ List.replicate (n - k) 0
theorem diffL_len {as bs : List Int} {n k : Nat} (h1 : n ≤ as.length) (h2 : n ≤ bs.length) (hk : k ≤ n) : (diffL as bs n k).length = n := by
  simp only [diffL, List.length_append, List.length_zipWith, List.length_take, List.length_replicate]; omega
theorem diffL_set {as bs : List Int} {n k : Nat} (h1 : n ≤ as.length) (h2 : n ≤ bs.length) (hk : k < n) : (diffL as bs n k).set k (bx (as.getD k 0) (bs.getD k 0)) = diffL as bs n (k + 1) := by
  unfold diffL
  have hl : (List.zipWith bx (as.take k) (bs.take k)).length = k := by rw [List.length_zipWith, List.length_take, List.length_take]; omega
  rw [List.set_append_right _ _ (by omega), hl, Nat.sub_self, show n - k = n - (k + 1) + 1 by omega, List.replicate_succ, List.set_cons_zero, take_succ (by omega : k < as.length), take_succ (by omega : k < bs.length)]
  rw [List.zipWith_append (by rw [List.length_take, List.length_take]; omega)]
  rw [List.append_assoc]
  rfl
theorem diffL_end {as bs : List Int} {n : Nat} : diffL as bs n n = List.zipWith bx (as.take n) (bs.take n) := by
  unfold diffL; rw [Nat.sub_self]; simp
theorem zip_bit (a b : List Int) : Bit (List.zipWith bx a b) := bit_iff.2 fun y hy => by
  obtain ⟨i, hi, rfl⟩ := List.mem_iff_getElem.1 hy
  rw [List.getElem_zipWith]
  exact bx_bit
end Go.Sep
