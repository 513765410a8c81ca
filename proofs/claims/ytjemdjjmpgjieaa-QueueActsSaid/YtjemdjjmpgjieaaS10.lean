import Derived.Test.YtjemdjjmpgjieaaS9
set_option linter.unusedVariables false
set_option linter.unusedSimpArgs false
/- Bits, numbers, rows: what the programs of several chapters compute. -/
namespace Go.Sep
open Go Go.RowKit

/-- What a row tells as a number, behind a number. -/
def numS : Int → List Int → Int
  | x, [] => x
  | x, b :: l => numS (2 * x + b) l
theorem numS_append (x : Int) (l m : List Int) : numS x (l ++ m) = numS (numS x l) m := by
  induction l generalizing x with
  | nil => rfl
  | cons b l ih => exact ih _
theorem take_succ {es : List Int} {k : Nat} (hk : k < es.length) : es.take (k + 1) = es.take k ++ [es.getD k 0] := by
  rw [List.take_succ_eq_append_getElem hk]; simp [List.getD_eq_getElem?_getD, hk]
theorem drop_cons {es : List Int} {k : Nat} (hk : k < es.length) : es.drop k = es.getD k 0 :: es.drop (k + 1) := by
  rw [List.drop_eq_getElem_cons hk]; simp [List.getD_eq_getElem?_getD, hk]
theorem numS_take {x : Int} {es : List Int} {k : Nat} (hk : k < es.length) : numS x (es.take (k + 1)) = 2 * numS x (es.take k) + es.getD k 0 := by
  rw [take_succ hk, numS_append]; rfl
/-- A row of bits. -/
def Bit (es : List Int) : Prop := ∀ i, 0 ≤ es.getD i 0 ∧ es.getD i 0 ≤ 1
theorem Bit.cons {b : Int} {l : List Int} (h : Bit (b :: l)) : (0 ≤ b ∧ b ≤ 1) ∧ Bit l := ⟨h 0, fun i => h (i + 1)⟩
theorem bit_iff {es : List Int} : Bit es ↔ ∀ x ∈ es, 0 ≤ x ∧ x ≤ 1 := by
  constructor
  · intro h x hx
    obtain ⟨i, hi, rfl⟩ := List.mem_iff_getElem.1 hx
    have := h i
    rwa [List.getD_eq_getElem?_getD, List.getElem?_eq_getElem hi] at this
  · intro h i
    rw [List.getD_eq_getElem?_getD]
    cases hi : es[i]? with
    | none => exact ⟨Int.le_refl _, by decide⟩
    | some x => exact h x (List.mem_of_getElem? hi)
theorem Bit.sub {l m : List Int} (h : Bit m) (hs : ∀ x ∈ l, x ∈ m) : Bit l := bit_iff.2 fun x hx => bit_iff.1 h x (hs x hx)
theorem numS_range : ∀ (l : List Int) (x : Int), 0 ≤ x → Bit l → x * 2 ^ l.length ≤ numS x l ∧ numS x l < (x + 1) * 2 ^ l.length
  | [], x, h, _ => by simp [numS]; omega
  | b :: l, x, h, hb => by
    obtain ⟨hb0, hl⟩ := hb.cons
    obtain ⟨h1, h2⟩ := numS_range l (2 * x + b) (by omega) hl
    simp only [numS, List.length_cons, Int.pow_succ]
    have hp : (0 : Int) < 2 ^ l.length := Int.pow_pos (by decide)
    constructor
    · refine Int.le_trans ?_ h1
      rw [show x * (2 ^ l.length * 2) = (2 * x) * 2 ^ l.length by rw [Int.mul_comm (2 ^ l.length) 2, ← Int.mul_assoc, Int.mul_comm x 2]]
      exact Int.mul_le_mul_of_nonneg_right (by omega) (by omega)
    · refine Int.lt_of_lt_of_le h2 ?_
      rw [show (x + 1) * (2 ^ l.length * 2) = (2 * x + 2) * 2 ^ l.length by rw [Int.mul_comm (2 ^ l.length) 2, ← Int.mul_assoc]; congr 1; omega]
      exact Int.mul_le_mul_of_nonneg_right (by omega) (by omega)
theorem numS_lt {es : List Int} {m : Nat} (hb : Bit es) (h : es.length ≤ m) : 0 ≤ numS 0 es ∧ numS 0 es < 2 ^ m := by
  obtain ⟨h1, h2⟩ := numS_range es 0 (by omega) hb
  refine ⟨by simpa using h1, Int.lt_of_lt_of_le h2 ?_⟩
  rw [Int.zero_add, Int.one_mul]
  have := Nat.pow_le_pow_right (n := 2) (by decide) h
  exact_mod_cast this
theorem Bit.take {es : List Int} {k : Nat} (h : Bit es) : Bit (es.take k) := h.sub fun _ => List.mem_of_mem_take
theorem Bit.drop {es : List Int} {k : Nat} (h : Bit es) : Bit (es.drop k) := h.sub fun _ => List.mem_of_mem_drop
theorem Bit.append {l m : List Int} (h : Bit l) (h2 : Bit m) : Bit (l ++ m) := bit_iff.2 fun x hx => (List.mem_append.1 hx).elim (bit_iff.1 h x) (bit_iff.1 h2 x)
theorem Bit.nil : Bit [] := bit_iff.2 fun _ h => by cases h
theorem Bit.mk {b : Int} {l : List Int} (h0 : 0 ≤ b) (h1 : b ≤ 1) (h : Bit l) : Bit (b :: l) := bit_iff.2 fun x hx => by
  rcases List.mem_cons.1 hx with rfl | hx
  · exact ⟨h0, h1⟩
  · exact bit_iff.1 h x hx

/-- A number's bits, so many. -/
def bitsS (n : Int) : Nat → List Int
  | 0 => []
  | s + 1 => (n / 2 ^ s) % 2 :: bitsS n s
theorem bitsS_length (n : Int) : ∀ s, (bitsS n s).length = s
  | 0 => rfl
  | s + 1 => by simp [bitsS, bitsS_length n s]
theorem bitsS_bit (n : Int) : ∀ s, Bit (bitsS n s)
  | 0 => Bit.nil
  | s + 1 => Bit.mk (by omega) (by omega) (bitsS_bit n s)
theorem numS_bitsS (n : Int) (hn : 0 ≤ n) : ∀ s, numS (n / 2 ^ s) (bitsS n s) = n
  | 0 => by simp [bitsS, numS]
  | s + 1 => by
    have : 2 * (n / 2 ^ (s + 1)) + (n / 2 ^ s) % 2 = n / 2 ^ s := by
      rw [Int.pow_succ, ← Int.ediv_ediv_of_nonneg (Int.le_of_lt (Int.pow_pos (by decide)))]
      omega
    simp only [bitsS, numS, this]
    exact numS_bitsS n hn s
theorem num_bits {n : Int} {s : Nat} (hn : 0 ≤ n) (h : n < 2 ^ s) : numS 0 (bitsS n s) = n := by
  have := numS_bitsS n hn s
  rwa [Int.ediv_eq_zero_of_lt hn h] at this
theorem bits_num_aux : ∀ (l : List Int) (x : Int), 0 ≤ x → Bit l → bitsS (numS x l) l.length = l
  | [], _, _, _ => rfl
  | b :: l, x, hx, hb => by
    obtain ⟨⟨h0, h1⟩, hl⟩ := hb.cons
    simp only [List.length_cons, bitsS, numS]
    rw [bits_num_aux l _ (by omega) hl]
    congr 1
    obtain ⟨g1, g2⟩ := numS_range l (2 * x + b) (by omega) hl
    have hp : (0 : Int) < 2 ^ l.length := Int.pow_pos (by decide)
    have : numS (2 * x + b) l / 2 ^ l.length = 2 * x + b := by
      apply Int.le_antisymm
      · have := (Int.ediv_lt_iff_lt_mul hp).2 g2; omega
      · exact (Int.le_ediv_iff_mul_le hp).2 g1
    rw [this]; omega
theorem bits_num {l : List Int} (hb : Bit l) : bitsS (numS 0 l) l.length = l := bits_num_aux l 0 (by omega) hb
theorem bitE {n j : Int} (h0 : 0 ≤ n) (h1 : n ≤ 18446744073709551615) {i : Nat} (hj : j = i) (hi : i ≤ 63) : IntKind.u8.wrap (andI .u64 (n.fdiv (2 ^ (min j.toNat IntKind.u64.bits))) 1) = (n / 2 ^ i) % 2 := by
  subst hj
  have hm : min ((i : Int).toNat) IntKind.u64.bits = i := by simp [IntKind.bits]; omega
  have hp : (0 : Int) < 2 ^ i := Int.pow_pos (by decide)
  have hq : n / 2 ^ i ≤ n := Int.ediv_le_self _ h0
  have hq0 : 0 ≤ n / 2 ^ i := Int.ediv_nonneg h0 (Int.le_of_lt hp)
  rw [hm, Int.fdiv_eq_ediv_of_nonneg _ (Int.le_of_lt hp), and1_u64 hq0 (by omega)]
  exact wrap_in (by show (0 : Int) ≤ _; omega) (by show _ ≤ (255 : Int); omega)
theorem shlor {x b : Int} (h0 : 0 ≤ x) (h1 : x < 9223372036854775808) (b0 : 0 ≤ b) (b1 : b ≤ 1) : orI .u64 (IntKind.u64.wrap (x * 2 ^ (min (1 : Int).toNat IntKind.u64.bits))) b = 2 * x + b := by
  have hm : (2 : Int) ^ (min (1 : Int).toNat IntKind.u64.bits) = 2 := by decide
  rw [hm, wrap_u64 (by omega) (by omega), orI_u64 (by omega) (by omega) b0 (by omega)]
  have hx : (x * 2).toNat = 2 * x.toNat := by omega
  rw [hx]
  have hb : b.toNat = 0 ∨ b.toNat = 1 := by omega
  have hor : 2 * x.toNat ||| b.toNat = 2 * x.toNat + b.toNat := by
    rcases hb with h | h <;> rw [h]
    · simp
    · have := Nat.two_pow_add_eq_or_of_lt (i := 1) (b := 1) (by decide) x.toNat
      rw [Nat.pow_one] at this
      exact this.symm
  rw [hor]; omega

/-- A readable row of bytes that a function hands back, with what it left lying about. -/
def Res (w0 : World) (H : List Chunk) (xs : List Int) (v : Value) (H' : List Chunk) : Prop :=
  ∃ a n c, v = .slice a n c ∧ n = xs.length ∧ Rd w0 H' a n c 1 (xs.map (.int .u8)) ∧ ∃ G, H' = G ++ H
theorem Res.nil {w0 : World} {H : List Chunk} {c : Nat} : Res w0 H [] (.slice none 0 c) H := ⟨none, 0, c, rfl, rfl, ⟨rfl, Nat.zero_le _, fun h => absurd h (by simp), fun p hp => by cases hp⟩, [], rfl⟩
/-- Such a row, and a number. -/
def RV (w0 : World) (H : List Chunk) (o : List Int) (e : Int) (v : Value) (H' : List Chunk) : Prop := ∃ u, v = .tuple #[u, .int .i64 e] ∧ Res w0 H o u H'
theorem Res.row {w0 : World} {H H' G : List Chunk} {a : Option Addr} {n c e : Nat} {xs : List Int} {k : Chunk → List Chunk} (hs : ∃ w, Sat w0 w H') (hat : At H' (.row a n c e 1 (xs.map (.int .u8))) k) (hG : H' = G ++ H) : Res w0 H xs (.slice a n c) H' := by
  have hR := Rd.row hat hs
  have := hR.len
  exact ⟨a, n, c, rfl, by simpa using this.symm, hR, G, hG⟩
theorem Sat.app {w0 w : World} {G H : List Chunk} (h : Sat w0 w (G ++ H)) : Sat w0 w H := Sat.sub (List.sublist_append_right G H) h
theorem Rd.app {w0 : World} {G H : List Chunk} {a : Option Addr} {n c sz : Nat} {xs : List Value} (h : Rd w0 H a n c sz xs) : Rd w0 (G ++ H) a n c sz xs := h.weaken fun _ => Sat.app
theorem At.app {G H : List Chunk} {c : Chunk} {k : Chunk → List Chunk} (h : At H c k) : At (G ++ H) c (fun d => G ++ k d) := by
  induction G with
  | nil => exact h
  | cons x G ih => exact .tail ih
theorem Rd.nilS {W : World} {H : List Chunk} {c : Nat} : Rd W H Option.none 0 c 1 [] := ⟨rfl, Nat.zero_le _, fun h => absurd h (by simp), fun p hp => by cases hp⟩
theorem map_as {k : IntKind} {l : List Int} {j : Nat} {z : Int} (h : j < l.length) (e : l.getD j 0 = z) : (l.map (Value.int k))[j]? = some (.int k z) := by rw [← e]; exact map_get l j h
theorem ones_map (k : IntKind) (l : List Int) : ∀ u ∈ l.map (Value.int k), u.oneCell' = true := by
  intro u hu
  obtain ⟨z, _, rfl⟩ := List.mem_map.1 hu
  rfl
theorem boolE {x y : Bool} (h : x = y) : Value.bool x = Value.bool y := by rw [h]
theorem intE {x y : Int} (h : x = y) : Value.int .i64 x = Value.int .i64 y := by rw [h]

/-! rows of bytes that are bits -/
def bad (es : List Int) : Bool := es.any fun z => decide (1 < z)
theorem bad_step {es : List Int} {k : Nat} (hk : k < es.length) (h : bad (es.take k) = false) (h2 : es.getD k 0 ≤ 1) : bad (es.take (k + 1)) = false := by
  unfold bad at h ⊢
  rw [take_succ hk, List.any_append, h]
  simp; exact h2
theorem bad_get {es : List Int} {k : Nat} (hk : k < es.length) (h2 : 1 < es.getD k 0) : bad es = true := by
  unfold bad
  rw [List.any_eq_true]
  refine ⟨es.getD k 0, ?_, by simpa using h2⟩
  rw [List.getD_eq_getElem?_getD, List.getElem?_eq_getElem hk]
  exact List.getElem_mem hk
theorem bad_end {es : List Int} {k : Nat} (hk : k = es.length) (h : bad (es.take k) = false) : bad es = false := by
  subst hk; rwa [List.take_length] at h
theorem same_step {es fs : List Int} {k : Nat} (hk : k < es.length) (hk2 : k < fs.length) (h : es.take k = fs.take k) (h2 : es.getD k 0 = fs.getD k 0) : es.take (k + 1) = fs.take (k + 1) := by
  rw [take_succ hk, take_succ hk2, h, h2]
theorem same_end {es fs : List Int} {k : Nat} (hk : k = es.length) (hl : es.length = fs.length) (h : es.take k = fs.take k) : decide (es = fs) = true := by
  subst hk
  rw [List.take_length, hl, List.take_length] at h
  exact decide_eq_true h
theorem same_ne {es fs : List Int} {k : Nat} (h : es.getD k 0 ≠ fs.getD k 0) : decide (es = fs) = false := decide_eq_false fun e => h (by rw [e])
theorem same_len {es fs : List Int} (h : ¬ es.length = fs.length) : decide (es = fs) = false := decide_eq_false fun e => h (by rw [e])
def chk (es : List Int) : Int := if 65536 < es.length ∨ bad es = true then 2 else 0
theorem chk_long {es : List Int} (h : 65536 < es.length) : chk es = 2 := if_pos (.inl h)
theorem chk_bad {es : List Int} (h : bad es = true) : chk es = 2 := if_pos (.inr h)
theorem chk_ok {es : List Int} (h : es.length ≤ 65536) (h2 : bad es = false) : chk es = 0 := if_neg (by rw [h2]; simp; omega)
theorem chk_or (es : List Int) : chk es = 0 ∨ chk es = 2 := by unfold chk; split <;> simp
theorem chk_zero {es : List Int} : chk es = 0 ↔ es.length ≤ 65536 ∧ bad es = false := by
  unfold chk; split <;> rename_i h
  · simp; intro h2; rcases h with h | h
    · omega
    · exact h
  · simp at h; simp; omega
/-- Bytes. -/
def Byte (es : List Int) : Prop := ∀ x ∈ es, 0 ≤ x ∧ x ≤ 255
theorem Byte.get {es : List Int} (h : Byte es) (i : Nat) : 0 ≤ es.getD i 0 ∧ es.getD i 0 ≤ 255 := by
  rw [List.getD_eq_getElem?_getD]
  cases hi : es[i]? with
  | none => exact ⟨Int.le_refl _, by decide⟩
  | some x => exact h x (List.mem_of_getElem? hi)
theorem bit_of {es : List Int} (h : Byte es) (hb : bad es = false) : Bit es := bit_iff.2 fun x hx => ⟨(h x hx).1, by
  unfold bad at hb
  rw [List.any_eq_false] at hb
  have := hb x hx
  simpa using this⟩
theorem Bit.good {es : List Int} (h : Bit es) : bad es = false := by
  unfold bad
  rw [List.any_eq_false]
  intro x hx
  have := (bit_iff.1 h x hx).2
  simpa using this
theorem Bit.byte {es : List Int} (h : Bit es) : Byte es := fun x hx => ⟨(bit_iff.1 h x hx).1, by have := (bit_iff.1 h x hx).2; omega⟩
theorem numS_pos {x : Int} {es : List Int} {k : Nat} (h : 0 ≤ x) (hb : Bit es) : 0 ≤ numS x (es.take k) := by
  have := (numS_range (es.take k) x h hb.take).1
  have hp : (0 : Int) ≤ x * 2 ^ (es.take k).length := Int.mul_nonneg h (Int.le_of_lt (Int.pow_pos (by decide)))
  omega
theorem numS_small {x : Int} {es : List Int} {k : Nat} (h : 0 ≤ x) (hx : (x + 1) * 2 ^ es.length ≤ 2 ^ 64) (hb : Bit es) (hk : k < es.length) : numS x (es.take k) < 9223372036854775808 := by
  have h1 := (numS_range (es.take k) x h hb.take).2
  have hl : (es.take k).length + 1 ≤ es.length := by rw [List.length_take]; omega
  have h2 : (2 : Int) ^ ((es.take k).length + 1) ≤ 2 ^ es.length := by exact_mod_cast Nat.pow_le_pow_right (n := 2) (by decide) hl
  have h3 := Int.mul_le_mul_of_nonneg_left h2 (show (0 : Int) ≤ x + 1 by omega)
  rw [Int.pow_succ, ← Int.mul_assoc] at h3
  have h4 : (2 : Int) ^ 64 = 18446744073709551616 := by decide
  omega
theorem numS_room {es : List Int} (h : es.length ≤ 64) : ((0 : Int) + 1) * 2 ^ es.length ≤ 2 ^ 64 := by
  rw [Int.zero_add, Int.one_mul]
  exact_mod_cast Nat.pow_le_pow_right (n := 2) (by decide) h
section
variable {P : Program} {w0 : World} {r : Option Nat} {fr : Fr} {H : List Chunk}
/-- 'n<<1 | b'. -/
theorem NV.orShl {o : Oper} {R : Value → List Chunk → Prop} {t yt : TypeId} {u v : Operand} {x b m : Int} (ho : o.op = .binOp .or t u v yt) (hx : ev fr u = .int .u64 (IntKind.u64.wrap (x * 2 ^ (min (1 : Int).toNat IntKind.u64.bits)))) (hy : ev fr v = .int .u64 b)
    (h0 : 0 ≤ x) (h1 : x < 9223372036854775808) (b0 : 0 ≤ b) (b1 : b ≤ 1) (hm : 2 * x + b = m) (hk : R (.int .u64 m) H) : NV P w0 r fr H o R := by
  subst hm
  refine QV.nv P w0 r (fun c hc => by rw [ho] at hc; cases hc) (v := .int .u64 (2 * x + b)) (fun w _ => ?_) hk
  have := run_intv (P := P) (op := .or) (t := t) (k := .u64) (a := IntKind.u64.wrap (x * 2 ^ (min (1 : Int).toNat IntKind.u64.bits))) (b := b) rfl w
  have hs := shlor h0 h1 b0 b1
  generalize IntKind.u64.wrap (x * 2 ^ (min (1 : Int).toNat IntKind.u64.bits)) = q at hx this hs
  rw [hs] at this
  have hg : (eqGuard .or t u v (.int .u64 q) (.int .u64 b)).run P w = .ok () w := by
    unfold eqGuard; simp
  simp [execOp, ho, hx, hy, this, hg]
theorem SW.app {N : Nat} {c : Code} {ds : List Deferred} {Q : Post} {G : List Chunk} (h : SW P w0 N r c fr ds H Q) : SW P w0 N r c fr ds (G ++ H) Q := fun tmps w hr hs => h tmps w hr hs.app
theorem SC.app {f : FuncId} {args : Array Value} {R : Value → List Chunk → Prop} {G : List Chunk} (h : SC P w0 f args H R) : SC P w0 f args (G ++ H) R := fun w hw => h w hw.app
/-- A step that looks at no memory. -/
theorem NV.p (T : Tab P) {o : Oper} {R : Value → List Chunk → Prop} {v : Value} (hk : R v H) (hv : pev T fr o.op = some v := by conv => lhs; whnf; arg 1; whnf) : NV P w0 r fr H o R := NV.pure T hv hk
theorem RL.st {N : Nat} {ds : List Deferred} {ops : Array Oper} {l : List Oper} {o : Oper} {K : Cont} {dd : Option Tmp}
    (h : NV P w0 r fr H o fun v H' => RL P w0 N r ops l (putF fr dd v) ds H' K) (hg : Gd ops fr o := by first | exact Gd.none rfl | exact Gd.yes rfl rfl) (hd : o.dst = dd := by rfl) (hN : dstOK N dd = true := by rfl) : RL P w0 N r ops (o :: l) fr ds H K := RL.step hg hd hN h
theorem NV.lv1 (T : Tab P) {o : Oper} {R : Value → List Chunk → Prop} {t : TypeId} {x : Operand} {b j : Nat} {v : Value} {d : TypeDesc} {tb : TypeId} {cells : List Value} {k : Chunk → List Chunk} (hk : R v H)
    (ho : o.op = .load t x := by rfl) (hx : ev fr x = .pointer (some ⟨b, j, none⟩) := by rfl) (hd : T.desc t = some d := by rfl) (ha : isAggD d = false := by rfl)
    (hat : At H (.var b tb cells) k := by repeat first | exact At.head _ _ | assumption | exact At.put (by assumption) _ | apply At.tail | apply At.app) (hv : cells[j]? = some v := by rfl) : NV P w0 r fr H o R := NV.load_var1 T ho hx hd ha hat hv hk
theorem NV.lvN (T : Tab P) {o : Oper} {R : Value → List Chunk → Prop} {t : TypeId} {x : Operand} {b j : Nat} {d : TypeDesc} {i : TypeInfo} {tb : TypeId} {vs cells : List Value} {k : Chunk → List Chunk} (hv : (cells.drop j).take i.size = vs) (hk : R (.agg vs.toArray) H)
    (ho : o.op = .load t x := by rfl) (hx : ev fr x = .pointer (some ⟨b, j, none⟩) := by rfl) (hd : T.desc t = some d := by rfl) (ha : isAggD d = true := by rfl) (hi : T.info t = some i := by rfl)
    (hat : At H (.var b tb cells) k := by repeat first | exact At.head _ _ | assumption | exact At.put (by assumption) _ | apply At.tail | apply At.app) (hl : i.size = vs.length := by rfl) : NV P w0 r fr H o R := NV.load_varN T ho hx hd ha hi hat hv hl hk
theorem NV.sv1 (T : Tab P) {o : Oper} {R : Value → List Chunk → Prop} {t tb : TypeId} {x y : Operand} {b j : Nat} {i : TypeInfo} {v : Value} {cells cells' : List Value} {k : Chunk → List Chunk} (hc' : cells.set j v = cells') (hk : R undef (k (.var b tb cells')))
    (ho : o.op = .store t x y := by rfl) (hx : ev fr x = .pointer (some ⟨b, j, none⟩) := by rfl) (hi : T.info t = some i := by rfl) (hs : Nat.beq i.size 1 = true := by rfl) (hv : ev fr y = v := by conv => lhs; whnf)
    (h1 : v.oneCell' = true := by rfl) (hat : At H (.var b tb cells) k := by repeat first | exact At.head _ _ | assumption | exact At.put (by assumption) _ | apply At.tail | apply At.app) (hl : Nat.blt j cells.length = true := by rfl) : NV P w0 r fr H o R := NV.store_var1 T ho hx hi hs hv h1 hat hl hc' hk
theorem NV.le (T : Tab P) {o : Oper} {R : Value → List Chunk → Prop} {t : TypeId} {x : Operand} {a : Option Addr} {n c : Nat} {j : Nat} {v : Value} {d : TypeDesc} {xs : List Value} (hR : Rd w0 H a n c 1 xs) (hv : xs[j]? = some v) (hk : R v H)
    (ho : o.op = .load t x := by rfl) (hx : ev fr x = .pointer (some ((pa a).add (j * 1))) := by rfl) (hd : T.desc t = some d := by rfl) (ha : isAggD d = false := by rfl) : NV P w0 r fr H o R := NV.load_elem T ho hx hd ha hR hv hk
/-- The cells of a struct or an array that is built of all its parts in order. -/
def catL (place : Nat → Option (Nat × Nat)) : Nat → List (Nat × Value) → Option (List Value)
  | _, [] => some []
  | off, (j, v) :: rest => match place j with
    | some (o, sz) => cond (Nat.beq o off && Nat.beq v.cells.toList.length sz) ((catL place (off + sz) rest).map (v.cells.toList ++ ·)) none
    | none => none
def catv (T : Tab P) (t : TypeId) (parts : List (Nat × Value)) : Option (List Value) :=
  match T.desc t, T.info t with
  | some (.struct fs), some i => match i.zero, placesOf T fs.toList with
    | some z, some pl => match catL (fun j => pl[j]?) 0 parts with
      | some l => cond (Nat.beq l.length z.cells.toList.length) (some l) none
      | none => none
    | _, _ => none
  | some (.array _ e), some i => match i.zero, T.info e with
    | some z, some ie => match catL (fun j => some (j * ie.size, ie.size)) 0 parts with
      | some l => cond (Nat.beq l.length z.cells.toList.length) (some l) none
      | none => none
    | _, _ => none
  | _, _ => none
theorem catL_fill (place : Nat → Option (Nat × Nat)) : ∀ (parts : List (Nat × Value)) (off : Nat) (l cells : List Value), catL place off parts = some l → off + l.length ≤ cells.length → fillL place cells parts = some (cells.take off ++ l ++ cells.drop (off + l.length))
  | [], off, l, cells, h, hl => by cases h; simp [fillL]
  | (j, v) :: rest, off, l, cells, h, hl => by
    unfold catL at h
    unfold fillL
    cases hp : place j with
    | none => rw [hp] at h; cases h
    | some os =>
      obtain ⟨o, sz⟩ := os
      rw [hp] at h
      simp only at h ⊢
      cases hc : (Nat.beq o off && Nat.beq v.cells.toList.length sz) with
      | false => rw [hc] at h; cases h
      | true =>
        rw [hc] at h
        simp only [Bool.and_eq_true] at hc
        have h1 := Nat.eq_of_beq_eq_true hc.1
        have h2 := Nat.eq_of_beq_eq_true hc.2
        subst h1
        obtain ⟨l', hl', rfl⟩ := Option.map_eq_some_iff.1 h
        rw [List.length_append] at hl
        have hb : (Nat.beq v.cells.toList.length sz && Nat.ble (o + v.cells.toList.length) cells.length) = true := by
          rw [hc.2, Bool.true_and]
          exact Nat.ble_eq_true_of_le (by omega)
        rw [hb]
        simp only [cond]
        have hlen : (spliceL cells o v.cells.toList).length = cells.length := by
          simp only [spliceL, List.length_append, List.length_take, List.length_drop]; omega
        rw [catL_fill place rest (o + sz) l' (spliceL cells o v.cells.toList) hl' (by rw [hlen]; omega)]
        congr 1
        subst h2
        apply List.ext_getElem?
        intro n
        simp only [spliceL, List.getElem?_append, List.getElem?_take, List.getElem?_drop, List.length_append, List.length_take, List.length_drop]
        grind
theorem catv_build (T : Tab P) {t : TypeId} {parts : List (Nat × Value)} {l : List Value} (h : catv T t parts = some l) : buildv T t parts = some (.agg l.toArray) := by
  have key : ∀ (place : Nat → Option (Nat × Nat)) (z : Value), (match catL place 0 parts with | some l => cond (Nat.beq l.length z.cells.toList.length) (some l) none | none => none) = some l → (fillL place z.cells.toList parts).map (fun l => Value.agg l.toArray) = some (.agg l.toArray) := by
    intro place z h
    cases hc : catL place 0 parts with
    | none => rw [hc] at h; cases h
    | some l' =>
      rw [hc] at h
      simp only at h
      cases hb : Nat.beq l'.length z.cells.toList.length with
      | false => rw [hb] at h; cases h
      | true =>
        rw [hb] at h
        cases h
        have hl := Nat.eq_of_beq_eq_true hb
        rw [catL_fill place parts 0 l z.cells.toList hc (by omega), Nat.zero_add, hl]
        simp
  unfold catv at h
  unfold buildv
  cases hd : T.desc t with
  | none => simp [hd] at h
  | some d =>
    cases hi : T.info t with
    | none => cases d <;> simp [hd, hi] at h
    | some i =>
      cases hz : i.zero with
      | none => cases d <;> simp [hd, hi, hz] at h
      | some z =>
        cases d with
        | struct fs =>
          cases hp : placesOf T fs.toList with
          | none => simp [hd, hi, hz, hp] at h
          | some pl => simp only [hd, hi, hz, hp] at h ⊢; exact key _ z h
        | array n e =>
          cases hie : T.info e with
          | none => simp [hd, hi, hz, hie] at h
          | some ie => simp only [hd, hi, hz, hie] at h ⊢; exact key _ z h
        | _ => simp [hd, hi] at h
theorem QV.buildc (T : Tab P) {o : Oper} {t : TypeId} {parts : Array (Nat × Operand)} {l : List Value} (ho : o.op = .build t parts) (h : catv T t (evp fr parts.toList) = some l) : QV P w0 fr H o (.agg l.toArray) :=
  pev_sound T (by rw [ho]; exact catv_build T h)
theorem NV.buildc (T : Tab P) {o : Oper} {R : Value → List Chunk → Prop} {t : TypeId} {parts : Array (Nat × Operand)} {l : List Value} (ho : o.op = .build t parts) (h : catv T t (evp fr parts.toList) = some l) (hk : R (.agg l.toArray) H) : NV P w0 r fr H o R :=
  QV.nv P w0 r (fun c hc => by rw [ho] at hc; cases hc) (QV.buildc T ho h) hk
theorem SC.swap {f : FuncId} {args : Array Value} {c d : Chunk} {R : Value → List Chunk → Prop} (h : SC P w0 f args (c :: d :: H) R) : SC P w0 f args (d :: c :: H) R := SC.perm (.swap _ _ _) h
end
end Go.Sep
