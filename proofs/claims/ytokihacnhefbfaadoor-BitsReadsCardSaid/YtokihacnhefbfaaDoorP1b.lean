/- Bytes' bits, bits' bytes. -/
import Derived.Test.YtokihacnhefbfaaDoorP1
set_option linter.unusedVariables false
set_option linter.unusedSimpArgs false
namespace Go.Sep
open Go
def bytesS (es : List Int) : List Int := es.flatMap fun b => bitsS b 8
theorem bytesS_take {es : List Int} {k : Nat} (hk : k < es.length) : bytesS (es.take (k + 1)) = bytesS (es.take k) ++ bitsS (es.getD k 0) 8 := by
  rw [take_succ hk]; simp [bytesS, List.flatMap_append]
theorem bytesS_len : ∀ es : List Int, (bytesS es).length = 8 * es.length
  | [] => rfl
  | e :: es => by
    have := bytesS_len es
    simp only [bytesS, List.flatMap_cons, List.length_append, bitsS_length, List.length_cons] at this ⊢
    omega
theorem bytesS_bit (es : List Int) : Bit (bytesS es) := bit_iff.2 fun x hx => by
  obtain ⟨b, _, hb⟩ := List.mem_flatMap.1 hx
  exact bit_iff.1 (bitsS_bit b 8) x hb
/-- Rows of eight as numbers. -/
def packS : Nat → List Int → List Int
  | 0, _ => []
  | n + 1, l => numS 0 (l.take 8) :: packS n (l.drop 8)
theorem packS_snoc : ∀ (n : Nat) (l : List Int), packS (n + 1) l = packS n l ++ [numS 0 ((l.drop (8 * n)).take 8)]
  | 0, l => rfl
  | n + 1, l => by
    have := packS_snoc n (l.drop 8)
    rw [packS, this, packS, List.cons_append, List.drop_drop, show 8 + 8 * n = 8 * (n + 1) by omega]
theorem packS_len : ∀ (n : Nat) (l : List Int), (packS n l).length = n
  | 0, _ => rfl
  | n + 1, l => by simp [packS, packS_len n]
def packV (es : List Int) : List Int × Int := if chk es = 0 then (if es.length % 8 = 0 then (packS (es.length / 8) es, 0) else ([], 3)) else ([], 2)
theorem pack_bytes : ∀ es : List Int, Byte es → packS es.length (bytesS es) = es
  | [], _ => rfl
  | e :: es, h => by
    have he := h e (by simp)
    have hl : (bitsS e 8).length = 8 := bitsS_length e 8
    have h1 : (bytesS (e :: es)).take 8 = bitsS e 8 := by
      simp only [bytesS, List.flatMap_cons]; rw [List.take_append_of_le_length (by omega), List.take_of_length_le (by omega)]
    have h2 : (bytesS (e :: es)).drop 8 = bytesS es := by
      simp only [bytesS, List.flatMap_cons]; rw [List.drop_append_of_le_length (by omega), List.drop_of_length_le (by omega)]; rfl
    rw [List.length_cons, packS, h1, h2, num_bits he.1 (by have := he.2; omega), pack_bytes es (fun x hx => h x (by simp [hx]))]
theorem bytes_pack : ∀ (n : Nat) (l : List Int), l.length = 8 * n → Bit l → bytesS (packS n l) = l
  | 0, l, h, _ => by obtain rfl : l = [] := List.eq_nil_of_length_eq_zero (by omega); rfl
  | n + 1, l, h, hb => by
    have h8 : (l.take 8).length = 8 := by rw [List.length_take]; omega
    have := bits_num (hb.take (k := 8))
    rw [h8] at this
    simp only [packS, bytesS, List.flatMap_cons, this]
    have ih := bytes_pack n (l.drop 8) (by rw [List.length_drop]; omega) hb.drop
    simp only [bytesS] at ih
    rw [ih, List.take_append_drop]
theorem packS_byte : ∀ (n : Nat) (l : List Int), Bit l → Byte (packS n l)
  | 0, _, _ => fun x hx => by cases hx
  | n + 1, l, hb => fun x hx => by
    rcases List.mem_cons.1 hx with rfl | hx
    · have := numS_lt (hb.take (k := 8)) (m := 8) (by rw [List.length_take]; omega)
      omega
    · exact packS_byte n _ hb.drop x hx
theorem chk_bit {es : List Int} (hb : Byte es) (h : chk es = 0) : Bit es := bit_of hb (chk_zero.1 h).2
theorem chk_of {es : List Int} (hb : Bit es) (h : es.length ≤ 65536) : chk es = 0 := chk_ok h hb.good
def getN (es : List Int) : Int × Int := if es.length ≤ 64 ∧ chk es = 0 then (numS 0 es, 0) else (0, 2)
def putN (z s : Int) : List Int × Int := if s < 0 ∨ 64 < s ∨ 0 < z.fdiv (2 ^ (min s.toNat 64)) then ([], 2) else (bitsS z s.toNat, 0)
/-- The last bits of a number, put from the end. -/
theorem bits_back {z : Int} {s : Nat} : ∀ (k : Nat), k ≤ s → bitsS z s = bitsS (z / 2 ^ k) (s - k) ++ bitsS z k
  | 0, _ => by simp [bitsS]
  | k + 1, h => by
    have ih := bits_back (z := z) (s := s) k (by omega)
    rw [ih]
    have hs : s - k = (s - (k + 1)) + 1 := by omega
    have key : ∀ (n : Int) (m : Nat), bitsS n (m + 1) = bitsS (n / 2) m ++ [n % 2] := by
      intro n m
      induction m with
      | zero => simp [bitsS]
      | succ m ih =>
        rw [bitsS, ih, bitsS]
        have : n / 2 / 2 ^ m = n / 2 ^ (m + 1) := by
          rw [Int.ediv_ediv_of_nonneg (by decide), Int.pow_succ, Int.mul_comm]
        rw [this]; rfl
    rw [hs, key, List.append_assoc]
    have e2 : z / 2 ^ k / 2 = z / 2 ^ (k + 1) := by rw [Int.ediv_ediv_of_nonneg (Int.le_of_lt (Int.pow_pos (by decide))), Int.pow_succ]
    rw [e2]; rfl
theorem half {z : Int} {k : Nat} : z / 2 ^ (k + 1) = z / 2 ^ k / 2 := by
  rw [Int.ediv_ediv_of_nonneg (Int.le_of_lt (Int.pow_pos (by decide))), Int.pow_succ]
theorem bits_set {xs : List Int} {z : Int} {s k : Nat} (hk : k < s) (hl : xs.length = s) (h : xs.drop (s - k) = bitsS z k) : (xs.set (s - 1 - k) ((z / 2 ^ k) % 2)).drop (s - (k + 1)) = bitsS z (k + 1) := by
  have e : s - (k + 1) = s - 1 - k := by omega
  rw [e, bitsS, ← h]
  have hlt : s - 1 - k < xs.length := by omega
  rw [List.set_eq_take_append_cons_drop, if_pos hlt, List.drop_append_of_le_length (by rw [List.length_take]; omega), List.drop_of_length_le (by rw [List.length_take]; omega), List.nil_append, show s - 1 - k + 1 = s - k by omega]
theorem byte48 {es : List Int} (hb : Bit es) : Byte (es.map fun z => 48 + z) := fun x hx => by
  obtain ⟨z, hz, rfl⟩ := List.mem_map.1 hx
  have := bit_iff.1 hb z hz
  omega
theorem putN_len (z s : Int) : (putN z s).1.length ≤ 64 := by
  unfold putN; split
  · simp
  · rename_i h; rw [bitsS_length]; omega
theorem putN64 {z : Int} (z0 : 0 ≤ z) (z1 : z ≤ 18446744073709551615) : putN z 64 = (bitsS z 64, 0) := by
  unfold putN
  rw [if_neg]
  · rfl
  · rintro (h | h | h)
    · omega
    · omega
    · rw [show min (64 : Int).toNat 64 = 64 by decide, Int.fdiv_eq_ediv_of_nonneg _ (by decide)] at h
      omega
theorem getN64 {z : Int} (z0 : 0 ≤ z) (z1 : z ≤ 18446744073709551615) : getN (bitsS z 64) = (z, 0) := by
  unfold getN
  rw [if_pos ⟨by rw [bitsS_length]; omega, chk_of (bitsS_bit z 64) (by rw [bitsS_length]; omega)⟩, num_bits z0 (by omega)]
theorem packV_len (es : List Int) : (packV es).1.length ≤ es.length / 8 ∧ (packV es).1.length ≤ 8192 := by
  unfold packV; split
  · rename_i h
    have := (chk_zero.1 h).1
    split
    · rw [packS_len]; omega
    · simp
  · simp
theorem packV_byte {es : List Int} (hb : Byte es) : Byte (packV es).1 := by
  unfold packV; split
  · rename_i h
    split
    · exact packS_byte _ _ (chk_bit hb h)
    · exact (fun x hx => by cases hx)
  · exact (fun x hx => by cases hx)
theorem packV_bytes {fs : List Int} (hb : Byte fs) (h : fs.length ≤ 8000) : packV (bytesS fs) = (fs, 0) := by
  have hl := bytesS_len fs
  unfold packV
  rw [if_pos (chk_of (bytesS_bit fs) (by omega)), if_pos (by omega), hl, Nat.mul_div_cancel_left _ (by omega), pack_bytes fs hb]
theorem bytes_packV {es : List Int} (hb : Byte es) (h : (packV es).2 = 0) : bytesS (packV es).1 = es := by
  unfold packV at h ⊢
  split at h
  · rename_i hc
    rw [if_pos hc]
    split at h
    · rename_i h8
      rw [if_pos h8]
      exact bytes_pack _ _ (by omega) (chk_bit hb hc)
    · simp at h
  · simp at h
end Go.Sep
