/- The check sums: a step is linear, a table of four bits is four steps. -/
import Derived.Test.YtmdmlhhhaidebaaP1b
set_option linter.unusedVariables false
set_option linter.unusedSimpArgs false
namespace Go.Sep
open Go
def stepN (z p s : Nat) (b : Int) : Nat := if ((s / 2 ^ (z - 1) % 2 : Nat) : Int) = b then 2 * s % 2 ^ z else (2 * s % 2 ^ z) ^^^ p
def crcN (z p s : Nat) (es : List Int) : Nat := es.foldl (stepN z p) s
def bx (a b : Int) : Int := if a = b then 0 else 1
theorem crcN_append (z p s : Nat) (l m : List Int) : crcN z p s (l ++ m) = crcN z p (crcN z p s l) m := List.foldl_append
theorem crcN_cons (z p s : Nat) (b : Int) (l : List Int) : crcN z p s (b :: l) = crcN z p (stepN z p s b) l := rfl
theorem crcN_take {z p s : Nat} {es : List Int} {k : Nat} (hk : k < es.length) : crcN z p s (es.take (k + 1)) = stepN z p (crcN z p s (es.take k)) (es.getD k 0) := by
  rw [take_succ hk, crcN_append]; rfl
theorem dbl_xor (z s t : Nat) : 2 * (s ^^^ t) % 2 ^ z = (2 * s % 2 ^ z) ^^^ (2 * t % 2 ^ z) := by
  have h : ∀ a : Nat, 2 * a = a <<< 1 := by intro a; rw [Nat.shiftLeft_eq]; omega
  rw [h, h, h, Nat.shiftLeft_xor_distrib, Nat.xor_mod_two_pow]
theorem xor_mod2 (a b : Nat) : (a ^^^ b) % 2 = (a + b) % 2 := by
  have h := Nat.xor_mod_two_pow (a := a) (b := b) (n := 1)
  rw [Nat.pow_one] at h
  rw [h]
  have h1 : a % 2 < 2 := Nat.mod_lt _ (by omega)
  have h2 : b % 2 < 2 := Nat.mod_lt _ (by omega)
  have e : (a + b) % 2 = (a % 2 + b % 2) % 2 := Nat.add_mod a b 2
  rw [e]
  generalize a % 2 = x at *
  generalize b % 2 = y at *
  obtain rfl | rfl : x = 0 ∨ x = 1 := by omega
  all_goals obtain rfl | rfl : y = 0 ∨ y = 1 := by omega
  all_goals rfl
theorem high_xor (k s t : Nat) : (s ^^^ t) / 2 ^ k % 2 = (s / 2 ^ k % 2 + t / 2 ^ k % 2) % 2 := by
  rw [← Nat.shiftRight_eq_div_pow, ← Nat.shiftRight_eq_div_pow, ← Nat.shiftRight_eq_div_pow, Nat.shiftRight_xor_distrib, xor_mod2]
  omega
theorem xor4 (a b p : Nat) : (a ^^^ p) ^^^ (b ^^^ p) = a ^^^ b := by
  rw [Nat.xor_comm b p, Nat.xor_assoc, ← Nat.xor_assoc p p b, Nat.xor_self, Nat.zero_xor]
theorem step_xor {z p s t : Nat} {a b : Int} (ha : 0 ≤ a ∧ a ≤ 1) (hb : 0 ≤ b ∧ b ≤ 1) : stepN z p (s ^^^ t) (bx a b) = stepN z p s a ^^^ stepN z p t b := by
  unfold stepN bx
  rw [high_xor, dbl_xor]
  have h1 : s / 2 ^ (z - 1) % 2 < 2 := Nat.mod_lt _ (by omega)
  have h2 : t / 2 ^ (z - 1) % 2 < 2 := Nat.mod_lt _ (by omega)
  generalize s / 2 ^ (z - 1) % 2 = hs at *
  generalize t / 2 ^ (z - 1) % 2 = ht at *
  generalize 2 * s % 2 ^ z = x
  generalize 2 * t % 2 ^ z = y
  obtain rfl | rfl : a = 0 ∨ a = 1 := by omega
  all_goals obtain rfl | rfl : b = 0 ∨ b = 1 := by omega
  all_goals obtain rfl | rfl : hs = 0 ∨ hs = 1 := by omega
  all_goals obtain rfl | rfl : ht = 0 ∨ ht = 1 := by omega
  all_goals simp
  all_goals first
    | rfl
    | exact (xor4 x y p).symm
    | (rw [Nat.xor_assoc]; done)
    | (rw [Nat.xor_assoc, Nat.xor_comm p y, ← Nat.xor_assoc]; done)
    | (rw [Nat.xor_assoc, Nat.xor_assoc, Nat.xor_comm p y]; done)
theorem run_xor {z p : Nat} : ∀ (es fs : List Int) (s t : Nat), es.length = fs.length → Bit es → Bit fs → crcN z p (s ^^^ t) (List.zipWith bx es fs) = crcN z p s es ^^^ crcN z p t fs
  | [], [], s, t, _, _, _ => rfl
  | a :: es, b :: fs, s, t, hl, ha, hb => by
    rw [List.zipWith_cons_cons, crcN_cons, step_xor ha.cons.1 hb.cons.1, run_xor es fs _ _ (by simpa using hl) ha.cons.2 hb.cons.2]
    rfl
  | [], _ :: _, _, _, hl, _, _ => by simp at hl
  | _ :: _, [], _, _, hl, _, _ => by simp at hl
theorem step_lt {z p s : Nat} {b : Int} (hp : p < 2 ^ z) : stepN z p s b < 2 ^ z := by
  unfold stepN
  have h : 2 * s % 2 ^ z < 2 ^ z := Nat.mod_lt _ (Nat.pow_pos (by omega))
  split
  · exact h
  · exact Nat.xor_lt_two_pow h hp
theorem crcN_lt {z p : Nat} (hp : p < 2 ^ z) : ∀ (es : List Int) (s : Nat), s < 2 ^ z → crcN z p s es < 2 ^ z
  | [], _, h => h
  | b :: es, s, _ => crcN_lt hp es _ (step_lt hp)
theorem bit_rep (k : Nat) : Bit (List.replicate k 0) := bit_iff.2 fun x hx => by
  obtain ⟨_, rfl⟩ := List.mem_replicate.1 hx; omega
theorem bx_zero {a : Int} (h : 0 ≤ a ∧ a ≤ 1) : bx 0 a = a ∧ bx a 0 = a := by
  unfold bx; constructor <;> split <;> omega
theorem bx_zeros : ∀ (es : List Int), Bit es → List.zipWith bx (List.replicate es.length 0) es = es ∧ List.zipWith bx es (List.replicate es.length 0) = es
  | [], _ => ⟨rfl, rfl⟩
  | a :: es, h => by
    have ih := bx_zeros es h.cons.2
    have h1 := bx_zero h.cons.1
    simp only [List.length_cons, List.replicate_succ, List.zipWith_cons_cons, ih.1, ih.2, h1.1, h1.2, and_self]
/-- low places move up through noughts -/
theorem run_low {z p : Nat} : ∀ (k s : Nat), k ≤ z → s < 2 ^ (z - k) → crcN z p s (List.replicate k 0) = s * 2 ^ k
  | 0, s, _, _ => by simp [crcN]
  | k + 1, s, hk, hs => by
    have hz : s * 2 < 2 ^ (z - k) := by
      have : 2 ^ (z - k) = 2 ^ (z - (k + 1)) * 2 := by rw [← Nat.pow_succ]; congr 1; omega
      omega
    have h1 : s < 2 ^ (z - 1) := Nat.lt_of_lt_of_le hs (Nat.pow_le_pow_right (by omega) (by omega))
    have h2 : 2 * s < 2 ^ z := by
      have : 2 ^ z = 2 ^ (z - 1) * 2 := by rw [← Nat.pow_succ]; congr 1; omega
      omega
    have e : stepN z p s 0 = s * 2 := by
      unfold stepN
      rw [if_pos (by rw [Nat.div_eq_of_lt h1]; rfl), Nat.mod_eq_of_lt h2]; omega
    rw [List.replicate_succ, crcN_cons, e, run_low k _ (by omega) hz, Nat.pow_succ]
    rw [Nat.mul_assoc, Nat.mul_comm 2]
def numN (es : List Int) : Nat := (numS 0 es).toNat
theorem numS_scale : ∀ (l : List Int) (x : Int), numS x l = x * 2 ^ l.length + numS 0 l
  | [], x => by simp [numS]
  | b :: l, x => by
    rw [numS, numS, numS_scale l (2 * x + b), numS_scale l (2 * 0 + b), List.length_cons, Int.pow_succ]
    have : x * (2 ^ l.length * 2) = 2 * x * 2 ^ l.length := by rw [← Int.mul_assoc]; rw [Int.mul_comm, ← Int.mul_assoc]
    rw [this, Int.add_mul, Int.add_mul]
    omega
theorem numN_cast {es : List Int} (h : Bit es) : (numN es : Int) = numS 0 es := Int.toNat_of_nonneg (by have := (numS_range es 0 (by omega) h).1; omega)
theorem numN_lt {es : List Int} (h : Bit es) : numN es < 2 ^ es.length := by
  have h2 := (numS_range es 0 (by omega) h).2
  rw [← numN_cast h] at h2
  have h3 : ((numN es : Nat) : Int) < ((2 ^ es.length : Nat) : Int) := by
    rw [Int.natCast_pow]; simpa using h2
  exact_mod_cast h3
theorem numN_cons {b : Int} {l : List Int} (h : Bit (b :: l)) : numN (b :: l) = b.toNat * 2 ^ l.length + numN l := by
  have h1 : ((numN (b :: l) : Nat) : Int) = ((b.toNat * 2 ^ l.length + numN l : Nat) : Int) := by
    rw [numN_cast h, numS, numS_scale, Int.natCast_add, numN_cast h.cons.2, Int.natCast_mul, Int.natCast_pow, Int.toNat_of_nonneg h.cons.1.1]
    simp
  exact_mod_cast h1
/-- what stands on top and comes in as well is gone -/
theorem run_num {z p : Nat} : ∀ (l : List Int), l.length ≤ z → Bit l → crcN z p (numN l * 2 ^ (z - l.length)) l = 0
  | [], _, _ => by simp [crcN, numN, numS]
  | b :: l, hl, h => by
    rw [List.length_cons] at hl
    have hlt := numN_lt h.cons.2
    have hb := h.cons.1
    have e1 : 2 ^ (z - 1) = 2 ^ l.length * 2 ^ (z - (l.length + 1)) := by rw [← Nat.pow_add]; congr 1; omega
    have e2 : 2 ^ z = 2 * 2 ^ (z - 1) := by rw [Nat.mul_comm, ← Nat.pow_succ]; congr 1; omega
    have e3 : 2 ^ (z - l.length) = 2 * 2 ^ (z - (l.length + 1)) := by rw [Nat.mul_comm, ← Nat.pow_succ]; congr 1; omega
    have hlow : numN l * 2 ^ (z - (l.length + 1)) < 2 ^ (z - 1) := by
      rw [e1]; exact Nat.mul_lt_mul_of_pos_right hlt (Nat.pow_pos (by omega))
    have es : numN (b :: l) * 2 ^ (z - (l.length + 1)) = b.toNat * 2 ^ (z - 1) + numN l * 2 ^ (z - (l.length + 1)) := by
      rw [numN_cons h, Nat.add_mul, e1, Nat.mul_assoc]
    have hpos : 0 < 2 ^ (z - 1) := Nat.pow_pos (by omega)
    have hst : stepN z p (numN (b :: l) * 2 ^ (z - (l.length + 1))) b = numN l * 2 ^ (z - l.length) := by
      rw [es]
      unfold stepN
      rw [if_pos]
      · rw [e2, e3]
        have : 2 * (b.toNat * 2 ^ (z - 1) + numN l * 2 ^ (z - (l.length + 1))) = numN l * (2 * 2 ^ (z - (l.length + 1))) + b.toNat * (2 * 2 ^ (z - 1)) := by
          rw [Nat.mul_add, Nat.add_comm, Nat.mul_left_comm, Nat.mul_left_comm 2 b.toNat]
        rw [this, Nat.add_mul_mod_self_right, Nat.mod_eq_of_lt]
        rw [Nat.mul_left_comm]
        omega
      · rw [Nat.add_comm, Nat.add_mul_div_right _ _ hpos, Nat.div_eq_of_lt hlow]
        omega
    rw [List.length_cons, crcN_cons, hst]
    exact run_num l (by omega) h.cons.2
/-- bits that come in are as bits that stood on top -/
theorem run_top {z p s : Nat} {l : List Int} (hl : l.length ≤ z) (h : Bit l) : crcN z p s l = crcN z p (s ^^^ (numN l * 2 ^ (z - l.length))) (List.replicate l.length 0) := by
  have e := run_xor (z := z) (p := p) (List.replicate l.length 0) l (s ^^^ (numN l * 2 ^ (z - l.length))) (numN l * 2 ^ (z - l.length)) (by simp) (bit_rep _) h
  rw [(bx_zeros l h).1, run_num l hl h, Nat.xor_zero, Nat.xor_assoc, Nat.xor_self, Nat.xor_zero] at e
  exact e
theorem split_xor (s k : Nat) : s = (s / 2 ^ k * 2 ^ k) ^^^ (s % 2 ^ k) := by
  have h := Nat.two_pow_add_eq_or_of_lt (i := k) (Nat.mod_lt s (Nat.pow_pos (by omega))) (s / 2 ^ k)
  have e : 2 ^ k * (s / 2 ^ k) + s % 2 ^ k = s := Nat.div_add_mod s (2 ^ k)
  apply Nat.eq_of_testBit_eq
  intro i
  rw [Nat.testBit_xor, Nat.testBit_mul_two_pow, Nat.testBit_div_two_pow, Nat.testBit_mod_two_pow]
  by_cases hi : i < k
  · have : ¬ k ≤ i := by omega
    simp [hi, this]
  · have h2 : k ≤ i := by omega
    have h3 : i - k + k = i := by omega
    simp [hi, h2, h3]
theorem mulpow_xor (a b k : Nat) : (a ^^^ b) * 2 ^ k = (a * 2 ^ k) ^^^ (b * 2 ^ k) := by
  rw [← Nat.shiftLeft_eq, ← Nat.shiftLeft_eq, ← Nat.shiftLeft_eq, Nat.shiftLeft_xor_distrib]
def tabN (z p i : Nat) : Nat := crcN z p (i * 2 ^ (z - 4)) [0, 0, 0, 0]
theorem run4 {z p s : Nat} {l : List Int} (hz : 4 ≤ z) (hl : l.length = 4) (h : Bit l) : crcN z p s l = ((s * 16) % 2 ^ z) ^^^ tabN z p ((s / 2 ^ (z - 4)) ^^^ numN l) := by
  have hlo : s % 2 ^ (z - 4) < 2 ^ (z - 4) := Nat.mod_lt _ (Nat.pow_pos (by omega))
  rw [run_top (by omega) h, hl]
  have e : s ^^^ (numN l * 2 ^ (z - 4)) = (((s / 2 ^ (z - 4)) ^^^ numN l) * 2 ^ (z - 4)) ^^^ (s % 2 ^ (z - 4)) := by
    rw [mulpow_xor, Nat.xor_assoc, Nat.xor_comm (numN l * _), ← Nat.xor_assoc, ← split_xor]
  have e2 := run_xor (z := z) (p := p) [0, 0, 0, 0] [0, 0, 0, 0] (((s / 2 ^ (z - 4)) ^^^ numN l) * 2 ^ (z - 4)) (s % 2 ^ (z - 4)) rfl (bit_rep 4) (bit_rep 4)
  rw [e]
  refine e2.trans ?_
  rw [Nat.xor_comm]
  congr 1
  rw [show [(0 : Int), 0, 0, 0] = List.replicate 4 0 from rfl, run_low 4 _ hz hlo]
  have e3 : 2 ^ z = 2 ^ (z - 4) * 16 := by rw [show (16 : Nat) = 2 ^ 4 from rfl, ← Nat.pow_add]; congr 1; omega
  rw [e3, Nat.mul_mod_mul_right]
theorem step_zero {z p s : Nat} (hp : p % 2 = 1) (hz : 1 ≤ z) (hs : s < 2 ^ z) (h : stepN z p s 0 = 0) : s = 0 := by
  have e2 : 2 ^ z = 2 * 2 ^ (z - 1) := by rw [Nat.mul_comm, ← Nat.pow_succ]; congr 1; omega
  unfold stepN at h
  split at h
  · rename_i hh
    have hd : s / 2 ^ (z - 1) < 2 := Nat.div_lt_of_lt_mul (by omega)
    have hd0 : s / 2 ^ (z - 1) = 0 := by rwa [Nat.mod_eq_of_lt hd, Int.natCast_eq_zero] at hh
    have hlt : s < 2 ^ (z - 1) := by
      have hpos : 0 < 2 ^ (z - 1) := Nat.pow_pos (by omega)
      rcases Nat.lt_or_ge s (2 ^ (z - 1)) with h | h
      · exact h
      · have := Nat.div_pos h hpos; omega
    rw [Nat.mod_eq_of_lt (by omega)] at h
    omega
  · exfalso
    have h1 : ((2 * s % 2 ^ z) ^^^ p) % 2 = 0 := by rw [h]
    rw [xor_mod2] at h1
    have h3 : 2 * s % 2 ^ z % 2 = 0 := by
      rw [e2, Nat.mul_mod_mul_left]; omega
    omega
theorem run_inj {z p : Nat} (hp : p % 2 = 1) (hp2 : p < 2 ^ z) (hz : 1 ≤ z) : ∀ (k s : Nat), s < 2 ^ z → crcN z p s (List.replicate k 0) = 0 → s = 0
  | 0, s, _, h => h
  | k + 1, s, hs, h => step_zero hp hz hs (run_inj hp hp2 hz k _ (step_lt hp2) (by rw [List.replicate_succ, crcN_cons] at h; exact h))
theorem xor_zero_eq {a b : Nat} (h : a ^^^ b = 0) : a = b := by
  have : a ^^^ b ^^^ b = b := by rw [h, Nat.zero_xor]
  rwa [Nat.xor_assoc, Nat.xor_self, Nat.xor_zero] at this
/-- a sum's own bits, and no others, make nothing of it -/
theorem run_own {z p s : Nat} {l : List Int} (hp : p % 2 = 1) (hp2 : p < 2 ^ z) (hz : 1 ≤ z) (hl : l.length = z) (h : Bit l) (hs : s < 2 ^ z) : crcN z p s l = 0 ↔ s = numN l := by
  have hn : numN l < 2 ^ z := by rw [← hl]; exact numN_lt h
  have e0 : numN l * 2 ^ (z - l.length) = numN l := by rw [hl, Nat.sub_self, Nat.pow_zero, Nat.mul_one]
  constructor
  · intro h0
    rw [run_top (by omega) h, e0] at h0
    exact xor_zero_eq (run_inj hp hp2 hz _ _ (Nat.xor_lt_two_pow hs hn) h0)
  · rintro rfl
    have := run_num (z := z) (p := p) l (by omega) h
    rwa [e0] at this
def tabL (z p k : Nat) : List Int := (List.range 16).map fun i => if i < k then (tabN z p i : Int) else 0
theorem tabL_len (z p k : Nat) : (tabL z p k).length = 16 := by simp [tabL]
theorem tabL_set {z p k : Nat} (hk : k < 16) : (tabL z p k).set k ((tabN z p k : Nat) : Int) = tabL z p (k + 1) := by
  refine List.ext_getElem (by rw [List.length_set, tabL_len, tabL_len]) fun i h1 h2 => ?_
  rw [List.getElem_set]
  simp only [tabL, List.getElem_map, List.getElem_range]
  by_cases h : k = i
  · subst h; simp
  · rw [if_neg h]
    by_cases h3 : i < k
    · rw [if_pos h3, if_pos (by omega)]
    · rw [if_neg h3, if_neg (by omega)]
theorem tabL_get {z p i : Nat} (hi : i < 16) : (tabL z p 16).getD i 0 = ((tabN z p i : Nat) : Int) := by
  rw [List.getD_eq_getElem?_getD, List.getElem?_eq_getElem (by rw [tabL_len]; exact hi)]
  simp [tabL, hi]
def kz (n : Int) : Nat := if n = 1 then 15 else if n = 2 then 17 else if n = 3 then 21 else if n = 4 then 13 else if n = 5 then 32 else 0
def kp (n : Int) : Nat := if n = 1 then 17817 else if n = 2 then 92251 else if n = 3 then 1058969 else if n = 4 then 6631 else if n = 5 then 4104977171 else 0
def ks (n : Int) : Nat := if n = 1 then 0 else if n = 2 then 65536 else if n = 3 then 1048576 else if n = 4 then 1 else if n = 5 then 1 else 0
theorem kind_cases (n : Int) : (kz n = 0 ∧ kp n = 0 ∧ ks n = 0 ∧ (n < 1 ∨ 5 < n)) ∨ (n = 1 ∨ n = 2 ∨ n = 3 ∨ n = 4 ∨ n = 5) := by
  unfold kz kp ks
  by_cases h1 : n = 1
  · exact .inr (.inl h1)
  by_cases h2 : n = 2
  · exact .inr (.inr (.inl h2))
  by_cases h3 : n = 3
  · exact .inr (.inr (.inr (.inl h3)))
  by_cases h4 : n = 4
  · exact .inr (.inr (.inr (.inr (.inl h4))))
  by_cases h5 : n = 5
  · exact .inr (.inr (.inr (.inr (.inr h5))))
  left
  simp only [h1, h2, h3, h4, h5, if_false, true_and]
  omega
structure KOk (n : Int) : Prop where
  lo : 13 ≤ kz n
  hi : kz n ≤ 32
  p : kp n < 2 ^ kz n
  odd : kp n % 2 = 1
  s : ks n < 2 ^ kz n
  in_ : 1 ≤ n ∧ n ≤ 5
theorem kind_ok (n : Int) (h : kz n ≠ 0) : KOk n := by
  rcases kind_cases n with h1 | h1
  · exact absurd h1.1 h
  · rcases h1 with rfl | rfl | rfl | rfl | rfl <;> constructor <;> decide
theorem kind_max (n : Int) : kz n ≤ 32 := by
  rcases kind_cases n with h1 | h1
  · omega
  · rcases h1 with rfl | rfl | rfl | rfl | rfl <;> decide
def moreV (n : Int) (s : Nat) (es : List Int) : Nat × Int := if kz n = 0 ∨ chk es ≠ 0 ∨ 2 ^ kz n ≤ s then (0, 2) else (crcN (kz n) (kp n) s es, 0)
theorem moreV_bad {n : Int} {s : Nat} {es : List Int} (h : kz n = 0 ∨ chk es ≠ 0 ∨ 2 ^ kz n ≤ s) : moreV n s es = (0, 2) := if_pos h
theorem moreV_ok {n : Int} {s : Nat} {es : List Int} (h1 : kz n ≠ 0) (h2 : chk es = 0) (h3 : s < 2 ^ kz n) : moreV n s es = (crcN (kz n) (kp n) s es, 0) := if_neg (by omega)
theorem crc_step {z p s : Nat} {es : List Int} {k : Nat} (hz : 4 ≤ z) (hB : Bit es) (hk : 4 * k + 4 ≤ es.length) : crcN z p s (es.take (4 * (k + 1))) = ((crcN z p s (es.take (4 * k)) * 16) % 2 ^ z) ^^^ tabN z p ((crcN z p s (es.take (4 * k)) / 2 ^ (z - 4)) ^^^ numN ((es.drop (4 * k)).take (4 * k + 4 - 4 * k))) := by
  rw [← run4 hz (by rw [List.length_take, List.length_drop]; omega) (hB.drop.take), ← crcN_append]
  congr 1
  rw [show 4 * k + 4 - 4 * k = 4 by omega, show 4 * (k + 1) = 4 * k + 4 by omega, List.take_add]
theorem crc_tail {z p s : Nat} {es : List Int} {k h : Nat} (hh : h = es.length) : crcN z p (crcN z p s (es.take k)) ((es.drop k).take (h - k)) = crcN z p s es := by
  rw [← crcN_append, List.take_of_length_le (l := es.drop k) (by rw [List.length_drop]; omega), List.take_append_drop]
theorem high4 {z p s : Nat} {l : List Int} (hz : 4 ≤ z) (hs : s < 2 ^ z) (hl : l.length = 4) (hB : Bit l) : (s / 2 ^ (z - 4)) ^^^ numN l < 16 := by
  have e3 : 2 ^ z = 2 ^ (z - 4) * 16 := by rw [show (16 : Nat) = 2 ^ 4 from rfl, ← Nat.pow_add]; congr 1; omega
  have h1 : s / 2 ^ (z - 4) < 2 ^ 4 := Nat.div_lt_of_lt_mul (by omega)
  have h2 := numN_lt hB
  rw [hl] at h2
  exact Nat.xor_lt_two_pow h1 h2
theorem tab_lt {z p i : Nat} (hz : 4 ≤ z) (hp : p < 2 ^ z) (hi : i < 16) : tabN z p i < 2 ^ z := by
  refine crcN_lt hp _ _ ?_
  have e3 : 2 ^ z = 2 ^ (z - 4) * 16 := by rw [show (16 : Nat) = 2 ^ 4 from rfl, ← Nat.pow_add]; congr 1; omega
  rw [e3, Nat.mul_comm i]; exact Nat.mul_lt_mul_of_pos_left hi (Nat.pow_pos (by omega))
theorem chk_sub {es fs : List Int} (hl : fs.length ≤ es.length) (hs : ∀ x ∈ fs, x ∈ es) (h : chk es = 0) : chk fs = 0 := by
  obtain ⟨h1, h2⟩ := chk_zero.1 h
  refine chk_ok (by omega) ?_
  unfold bad at *
  rw [List.any_eq_false] at *
  exact fun x hx => h2 x (hs x hx)
theorem chk_take {es : List Int} {k : Nat} (h : chk es = 0) : chk (es.take k) = 0 := chk_sub (by rw [List.length_take]; omega) (fun _ => List.mem_of_mem_take) h
theorem chk_drop {es : List Int} {k : Nat} (h : chk es = 0) : chk (es.drop k) = 0 := chk_sub (by rw [List.length_drop]; omega) (fun _ => List.mem_of_mem_drop) h
def addV (m : Int) (es : List Int) : List Int × Int := if kz m = 0 ∨ chk es ≠ 0 then ([], 2) else (es ++ bitsS ((crcN (kz m) (kp m) (ks m) es : Nat) : Int) (kz m), 0)
theorem addV_bad {m : Int} {es : List Int} (h : kz m = 0 ∨ chk es ≠ 0) : addV m es = ([], 2) := if_pos h
theorem addV_ok {m : Int} {es : List Int} (h : kz m ≠ 0) (h2 : chk es = 0) : addV m es = (es ++ bitsS ((crcN (kz m) (kp m) (ks m) es : Nat) : Int) (kz m), 0) := if_neg (by omega)
theorem crc_put {s z : Nat} (h : s < 2 ^ z) (hz : z ≤ 64) : ((s : Nat) : Int).fdiv (2 ^ (min ((z : Nat) : Int).toNat IntKind.u64.bits)) ≤ 0 := by
  have e : min ((z : Nat) : Int).toNat IntKind.u64.bits = z := by show min ((z : Int).toNat) 64 = z; omega
  rw [e, Int.fdiv_eq_ediv_of_nonneg _ (Int.le_of_lt (Int.pow_pos (by decide)))]
  have h2 : ((s / 2 ^ z : Nat) : Int) = 0 := by rw [Nat.div_eq_of_lt h]; rfl
  rw [Int.natCast_ediv, Int.natCast_pow] at h2
  exact Int.le_of_eq h2
def fitsV (m : Int) (es : List Int) : Bool := decide (kz m ≠ 0 ∧ kz m ≤ es.length ∧ chk es = 0 ∧ numS 0 (es.drop (es.length - kz m)) = ((crcN (kz m) (kp m) (ks m) (es.take (es.length - kz m)) : Nat) : Int))
theorem fitsV_no {m : Int} {es : List Int} (h : kz m = 0 ∨ es.length < kz m ∨ chk es ≠ 0) : fitsV m es = false := decide_eq_false (by omega)
theorem fitsV_yes {m : Int} {es : List Int} {n : Nat} (h : kz m ≠ 0) (h1 : kz m ≤ es.length) (h2 : chk es = 0) (hn : n = es.length) : fitsV m es = decide (numS 0 (es.drop (n - kz m)) = ((crcN (kz m) (kp m) (ks m) (es.take (n - kz m)) : Nat) : Int)) := by
  subst hn
  unfold fitsV
  exact decide_eq_decide.2 ⟨fun q => q.2.2.2, fun q => ⟨h, h1, h2, q⟩⟩
end Go.Sep
