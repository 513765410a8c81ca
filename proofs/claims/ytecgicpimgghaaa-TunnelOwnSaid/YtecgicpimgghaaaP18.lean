/- Frames as bytes: what is put, what is got. -/
import Derived.Test.YtecgicpimgghaaaS23
import Derived.Test.YtecgicpimgghaaaS25
import Derived.Test.YtecgicpimgghaaaP5b
set_option linter.unusedVariables false
set_option linter.unusedSimpArgs false
namespace Go.Sep
open Go
def b2 (b : Bool) (n : Int) : Int := if b = true then n else 0
def flagsI (f : Frm) : Nat → Int
  | 0 => 0
  | 1 => b2 (decide (f.kind = 2)) 1
  | 2 => b2 (decide (f.kind = 2)) 1 + b2 f.ext 2
  | 3 => b2 (decide (f.kind = 2)) 1 + b2 f.ext 2 + b2 f.rtr 4
  | 4 => b2 (decide (f.kind = 2)) 1 + b2 f.ext 2 + b2 f.rtr 4 + b2 f.brs 8
  | _ => b2 (decide (f.kind = 2)) 1 + b2 f.ext 2 + b2 f.rtr 4 + b2 f.brs 8 + b2 f.esi 16
def flagsF (f : Frm) : Int := flagsI f 5
theorem b2_rng (b : Bool) {n : Int} (h : 0 ≤ n) : 0 ≤ b2 b n ∧ b2 b n ≤ n := by unfold b2; split <;> omega
theorem flagsI_rng (f : Frm) (k : Nat) : 0 ≤ flagsI f k ∧ flagsI f k < 2 ^ k ∨ 5 < k := by
  have h1 := b2_rng (decide (f.kind = 2)) (n := 1) (by omega)
  have h2 := b2_rng f.ext (n := 2) (by omega)
  have h3 := b2_rng f.rtr (n := 4) (by omega)
  have h4 := b2_rng f.brs (n := 8) (by omega)
  have h5 := b2_rng f.esi (n := 16) (by omega)
  rcases k with _ | _ | _ | _ | _ | _ | k
  all_goals first | (right; omega) | skip
  all_goals (left; simp only [flagsI]; omega)
def oldB (f : Frm) : List Int := [flagsF f, f.id / 2 ^ 24, f.id / 2 ^ 16 % 256, f.id / 2 ^ 8 % 256, f.id % 256, (f.data.length : Int) % 256] ++ f.data
def putO (f : Frm) : List Int × Int := if f.kind = 3 ∨ chkF f ≠ 0 then ([], 2) else (oldB f, 0)
theorem putO_bad {f : Frm} (h : f.kind = 3 ∨ chkF f ≠ 0) : putO f = ([], 2) := if_pos h
theorem putO_ok {f : Frm} (h : f.kind ≠ 3) (h2 : chkF f = 0) : putO f = (oldB f, 0) := if_neg (by omega)
def bi (es : List Int) (i : Nat) : Int := es.getD i 0
def oldId (es : List Int) : Int := bi es 1 * 2 ^ 24 + bi es 2 * 2 ^ 16 + bi es 3 * 2 ^ 8 + bi es 4
/-- the frame with the first k flags set -/
def oldS (es : List Int) (k : Nat) : Frm := ⟨1 + bi es 0 % 2, oldId es, decide (1 < k) && decide (bi es 0 / 2 % 2 = 1), decide (2 < k) && decide (bi es 0 / 4 % 2 = 1), decide (3 < k) && decide (bi es 0 / 8 % 2 = 1), decide (4 < k) && decide (bi es 0 / 16 % 2 = 1), false, 0, 0, 0, es.drop 6⟩
def oldF (es : List Int) : Frm := oldS es 5
def oldE (es : List Int) : Int := if es.length < 6 then 3 else if 32 ≤ bi es 0 then 5 else if (es.length : Int) < 6 + bi es 5 then 3 else if 6 + bi es 5 < es.length then 7 else if chkF (oldF es) ≠ 0 then 5 else 0
def oldR (es : List Int) : Frm := if oldE es = 0 then oldF es else zeroF 0
/-- a frame that is handed back with an error number: its bytes lie in what is held -/
def FrV (w0 : World) (H : List Chunk) (f : Frm) (e : Int) (v : Value) (H' : List Chunk) : Prop :=
  ∃ a n c G, v = .tuple #[FA f a n c, .int .i64 e] ∧ n = f.data.length ∧ Rd w0 G a n c 1 (f.data.map (.int .u8)) ∧ H' = G ++ H
def two (y : Int) : List Int := [y / 2 ^ 8, y % 256]
theorem old_row {f : Frm} {n : Nat} (hf : FrOk f) (hn : n = f.data.length) : ([flagsF f] ++ [f.id / 2 ^ 16, f.id % 65536].flatMap two) ++ [(n : Int) % 256] ++ f.data = oldB f := by
  have h1 := hf.id
  subst hn
  simp only [oldB, two, List.flatMap_cons, List.flatMap_nil, List.cons_append, List.nil_append]
  have e1 : f.id / 2 ^ 16 / 2 ^ 8 = f.id / 2 ^ 24 := by omega
  have e2 : f.id % 65536 / 2 ^ 8 = f.id / 2 ^ 8 % 256 := by omega
  have e3 : f.id % 65536 % 256 = f.id % 256 := by omega
  rw [e1, e2, e3]
theorem oldB_len (f : Frm) : (oldB f).length = 6 + f.data.length := by simp [oldB]; omega
theorem old_max {f : Frm} (h : f.kind ≠ 3) (h2 : chkF f = 0) : f.data.length ≤ 64 := by
  have h3 := code_len (okF_iff.1 (chk_ok_iff.1 h2)).1
  omega
theorem two_ok {a b : Int} (ha : 0 ≤ a ∧ a ≤ 65535) (hb : 0 ≤ b ∧ b ≤ 65535) (k : Nat) : 0 ≤ [a, b].getD k 0 ∧ [a, b].getD k 0 ≤ 65535 := by
  rcases k with _ | _ | k
  · exact ha
  · exact hb
  · simp
theorem bi_rng {es : List Int} (h : Byte es) (i : Nat) : 0 ≤ bi es i ∧ bi es i ≤ 255 := h.get i
theorem bi_drop {es : List Int} (i j : Nat) : bi (es.drop i) j = bi es (i + j) := by
  unfold bi; rw [List.getD_eq_getElem?_getD, List.getD_eq_getElem?_getD, List.getElem?_drop]
theorem oldE_short {es : List Int} (h : es.length < 6) : oldR es = zeroF 0 ∧ oldE es = 3 := by
  have e : oldE es = 3 := if_pos h
  exact ⟨by rw [oldR, if_neg (by omega)], e⟩
theorem oldE_form {es : List Int} (h : 6 ≤ es.length) (h2 : 32 ≤ bi es 0) : oldR es = zeroF 0 ∧ oldE es = 5 := by
  have e : oldE es = 5 := by rw [oldE, if_neg (by omega), if_pos h2]
  exact ⟨by rw [oldR, if_neg (by omega)], e⟩
theorem oldE_less {es : List Int} (h : 6 ≤ es.length) (h2 : bi es 0 < 32) (h3 : (es.length : Int) < 6 + bi es 5) : oldR es = zeroF 0 ∧ oldE es = 3 := by
  have e : oldE es = 3 := by rw [oldE, if_neg (by omega), if_neg (by omega), if_pos h3]
  exact ⟨by rw [oldR, if_neg (by omega)], e⟩
theorem oldE_more {es : List Int} (h : 6 ≤ es.length) (h2 : bi es 0 < 32) (h3 : 6 + bi es 5 < es.length) : oldR es = zeroF 0 ∧ oldE es = 7 := by
  have e : oldE es = 7 := by rw [oldE, if_neg (by omega), if_neg (by omega), if_neg (by omega), if_pos h3]
  exact ⟨by rw [oldR, if_neg (by omega)], e⟩
theorem oldE_chk {es : List Int} (h : 6 ≤ es.length) (h2 : bi es 0 < 32) (h3 : (es.length : Int) = 6 + bi es 5) (h4 : chkF (oldF es) ≠ 0) : oldR es = zeroF 0 ∧ oldE es = 5 := by
  have e : oldE es = 5 := by rw [oldE, if_neg (by omega), if_neg (by omega), if_neg (by omega), if_neg (by omega), if_pos h4]
  exact ⟨by rw [oldR, if_neg (by omega)], e⟩
theorem oldE_ok {es : List Int} (h : 6 ≤ es.length) (h2 : bi es 0 < 32) (h3 : (es.length : Int) = 6 + bi es 5) (h4 : chkF (oldF es) = 0) : oldR es = oldF es ∧ oldE es = 0 := by
  have e : oldE es = 0 := by rw [oldE, if_neg (by omega), if_neg (by omega), if_neg (by omega), if_neg (by omega), if_neg (by omega)]
  exact ⟨by rw [oldR, if_pos e], e⟩
theorem oldS_ok {es : List Int} (h : Byte es) (k : Nat) : FrOk (oldS es k) := by
  have h0 := bi_rng h 0
  have h1 := bi_rng h 1
  have h2 := bi_rng h 2
  have h3 := bi_rng h 3
  have h4 := bi_rng h 4
  refine ⟨?_, ?_, by show (0 : Int) ≤ 0 ∧ (0 : Int) ≤ 255; omega, by show (0 : Int) ≤ 0 ∧ (0 : Int) ≤ 255; omega, by show (0 : Int) ≤ 0 ∧ (0 : Int) ≤ 4294967295; omega, h.drop 6⟩
  · show -9223372036854775808 ≤ 1 + bi es 0 % 2 ∧ 1 + bi es 0 % 2 ≤ 9223372036854775807
    omega
  · show 0 ≤ oldId es ∧ oldId es ≤ 4294967295
    unfold oldId; omega
theorem oldId_eq (es : List Int) : (bi es 1 * 256 + bi es 2) * 2 ^ 16 + (bi es 3 * 256 + bi es 4) = oldId es := by unfold oldId; omega
theorem putO_len (f : Frm) : (putO f).1.length ≤ 70 := by
  by_cases h : f.kind = 3 ∨ chkF f ≠ 0
  · rw [putO_bad h]; simp
  · rw [putO_ok (by omega) (by omega)]
    have h1 := old_max (f := f) (by omega) (by omega)
    have h2 := oldB_len f
    show (oldB f).length ≤ 70
    omega
theorem oldR_ok {es : List Int} (h : Byte es) : FrOk (oldR es) := by
  unfold oldR
  split
  · exact oldS_ok h 5
  · exact ⟨by decide, by decide, by decide, by decide, by decide, Byte.nil⟩
theorem oldR_len (es : List Int) : (oldR es).data.length ≤ es.length := by
  unfold oldR
  split
  · show (es.drop 6).length ≤ _
    rw [List.length_drop]; omega
  · simp [zeroF]
structure Eth where
  t : List Int
  tagged : Bool
  tag : Int
  typ : Int
  data : List Int
abbrev EA (e : Eth) (a : Option Addr) (n c : Nat) : Value := .agg #[.int .u8 (bi e.t 0), .int .u8 (bi e.t 1), .int .u8 (bi e.t 2), .int .u8 (bi e.t 3), .int .u8 (bi e.t 4), .int .u8 (bi e.t 5), .int .u8 (bi e.t 6), .int .u8 (bi e.t 7), .int .u8 (bi e.t 8), .int .u8 (bi e.t 9), .int .u8 (bi e.t 10), .int .u8 (bi e.t 11), .bool e.tagged, .int .u16 e.tag, .int .u16 e.typ, .slice a n c]
abbrev EC (e : Eth) (a : Option Addr) (n c : Nat) : List Value := [.int .u8 (bi e.t 0), .int .u8 (bi e.t 1), .int .u8 (bi e.t 2), .int .u8 (bi e.t 3), .int .u8 (bi e.t 4), .int .u8 (bi e.t 5), .int .u8 (bi e.t 6), .int .u8 (bi e.t 7), .int .u8 (bi e.t 8), .int .u8 (bi e.t 9), .int .u8 (bi e.t 10), .int .u8 (bi e.t 11), .bool e.tagged, .int .u16 e.tag, .int .u16 e.typ, .slice a n c]
structure EOk (e : Eth) : Prop where
  len : e.t.length = 12
  byte : Byte e.t
  tag : 0 ≤ e.tag ∧ e.tag ≤ 65535
  typ : 0 ≤ e.typ ∧ e.typ ≤ 65535
  data : Byte e.data
def t12 (es : List Int) : List Int := [bi es 0, bi es 1, bi es 2, bi es 3, bi es 4, bi es 5, bi es 6, bi es 7, bi es 8, bi es 9, bi es 10, bi es 11]
def tI (es : List Int) : Nat → List Int
  | 0 => [0, 0, 0, 0, 0, 0, 0, 0, 0, 0, 0, 0]
  | 1 => [bi es 0, 0, 0, 0, 0, 0, bi es 6, 0, 0, 0, 0, 0]
  | 2 => [bi es 0, bi es 1, 0, 0, 0, 0, bi es 6, bi es 7, 0, 0, 0, 0]
  | 3 => [bi es 0, bi es 1, bi es 2, 0, 0, 0, bi es 6, bi es 7, bi es 8, 0, 0, 0]
  | 4 => [bi es 0, bi es 1, bi es 2, bi es 3, 0, 0, bi es 6, bi es 7, bi es 8, bi es 9, 0, 0]
  | 5 => [bi es 0, bi es 1, bi es 2, bi es 3, bi es 4, 0, bi es 6, bi es 7, bi es 8, bi es 9, bi es 10, 0]
  | _ => [bi es 0, bi es 1, bi es 2, bi es 3, bi es 4, bi es 5, bi es 6, bi es 7, bi es 8, bi es 9, bi es 10, bi es 11]
theorem t12_eq {es : List Int} (h : es.length = 12) : t12 es = es := by
  match es, h with
  | [_, _, _, _, _, _, _, _, _, _, _, _], _ => rfl
theorem t12_take {es : List Int} (h : 12 ≤ es.length) : t12 es = es.take 12 := by
  rw [← t12_eq (es := es.take 12) (by rw [List.length_take]; omega)]
  simp only [t12, bi, List.getD_eq_getElem?_getD, List.getElem?_take]
  simp
def zeroE : Eth := ⟨[0, 0, 0, 0, 0, 0, 0, 0, 0, 0, 0, 0], false, 0, 0, []⟩
def ethL (e : Eth) : Nat := 14 + e.data.length + (if e.tagged = true then 4 else 0)
def ethH (e : Eth) : List Int := t12 e.t ++ (if e.tagged = true then [33024, e.tag].flatMap two else [])
def ethB (e : Eth) : List Int := ethH e ++ two e.typ ++ e.data
def putE (e : Eth) : List Int × Int := if (e.tagged = false ∧ (e.tag ≠ 0 ∨ e.typ = 33024)) ∨ 2048 < ethL e then ([], 2) else (ethB e, 0)
theorem putE_bad {e : Eth} (h : (e.tagged = false ∧ (e.tag ≠ 0 ∨ e.typ = 33024)) ∨ 2048 < ethL e) : putE e = ([], 2) := if_pos h
theorem putE_ok {e : Eth} (h : ¬ ((e.tagged = false ∧ (e.tag ≠ 0 ∨ e.typ = 33024)) ∨ 2048 < ethL e)) : putE e = (ethB e, 0) := if_neg h
theorem ethB_len (e : Eth) : (ethB e).length = ethL e := by
  unfold ethB ethH ethL two
  cases e.tagged <;> simp [t12] <;> omega
theorem putE_len (e : Eth) : (putE e).1.length ≤ 2048 := by
  by_cases h : (e.tagged = false ∧ (e.tag ≠ 0 ∨ e.typ = 33024)) ∨ 2048 < ethL e
  · rw [putE_bad h]; simp
  · rw [putE_ok h]
    show (ethB e).length ≤ 2048
    rw [ethB_len]
    omega
def wN (l : List Int) : Int := bi l 0 * 256 + bi l 1
theorem wN_rng {l : List Int} (h : Byte l) : 0 ≤ wN l ∧ wN l ≤ 65535 := by
  have h0 := bi_rng h 0
  have h1 := bi_rng h 1
  unfold wN; omega
def getEe (es : List Int) : Int := if 2048 < es.length then 2 else if es.length < 14 ∨ (wN (es.drop 12) = 33024 ∧ es.length < 18) then 3 else 0
def getEr (es : List Int) : Eth := if getEe es = 0 then (if wN (es.drop 12) = 33024 then ⟨t12 es, true, wN ((es.drop 12).drop 2), wN ((es.drop 12).drop 4), ((es.drop 12).drop 4).drop 2⟩ else ⟨t12 es, false, 0, wN (es.drop 12), (es.drop 12).drop 2⟩) else zeroE
theorem getE_long {es : List Int} (h : 2048 < es.length) : getEr es = zeroE ∧ getEe es = 2 := by
  have e : getEe es = 2 := if_pos h
  exact ⟨by rw [getEr, if_neg (by omega)], e⟩
theorem getE_short {es : List Int} (h : es.length ≤ 2048) (h2 : es.length < 14 ∨ (wN (es.drop 12) = 33024 ∧ es.length < 18)) : getEr es = zeroE ∧ getEe es = 3 := by
  have e : getEe es = 3 := by rw [getEe, if_neg (by omega), if_pos h2]
  exact ⟨by rw [getEr, if_neg (by omega)], e⟩
theorem getE_tag {es : List Int} (h : es.length ≤ 2048) (h2 : 18 ≤ es.length) (h3 : wN (es.drop 12) = 33024) : getEr es = ⟨t12 es, true, wN ((es.drop 12).drop 2), wN ((es.drop 12).drop 4), ((es.drop 12).drop 4).drop 2⟩ ∧ getEe es = 0 := by
  have e : getEe es = 0 := by rw [getEe, if_neg (by omega), if_neg (by omega)]
  exact ⟨by rw [getEr, if_pos e, if_pos h3], e⟩
theorem getE_bare {es : List Int} (h : es.length ≤ 2048) (h2 : 14 ≤ es.length) (h3 : ¬ wN (es.drop 12) = 33024) : getEr es = ⟨t12 es, false, 0, wN (es.drop 12), (es.drop 12).drop 2⟩ ∧ getEe es = 0 := by
  have e : getEe es = 0 := by rw [getEe, if_neg (by omega), if_neg (by omega)]
  exact ⟨by rw [getEr, if_pos e, if_neg h3], e⟩
theorem t12_byte {es : List Int} (h : Byte es) : Byte (t12 es) := by
  have hb := bi_rng h
  intro x hx
  simp only [t12, List.mem_cons, List.mem_nil_iff, or_false] at hx
  rcases hx with rfl | rfl | rfl | rfl | rfl | rfl | rfl | rfl | rfl | rfl | rfl | rfl <;> exact hb _
theorem zero12 : Byte [0, 0, 0, 0, 0, 0, 0, 0, 0, 0, 0, 0] := fun x hx => by simp at hx; omega
theorem zeroE_ok : EOk zeroE := ⟨rfl, zero12, by decide, by decide, Byte.nil⟩
theorem getEr_ok {es : List Int} (h : Byte es) : EOk (getEr es) := by
  unfold getEr
  split
  · split
    · exact ⟨rfl, t12_byte h, wN_rng ((h.drop _).drop _), wN_rng ((h.drop _).drop _), ((h.drop _).drop _).drop _⟩
    · exact ⟨rfl, t12_byte h, by show (0 : Int) ≤ 0 ∧ (0 : Int) ≤ 65535; omega, wN_rng (h.drop _), (h.drop _).drop _⟩
  · exact zeroE_ok
theorem getEr_len (es : List Int) : (getEr es).data.length ≤ es.length := by
  unfold getEr
  split
  · split <;> simp <;> omega
  · simp [zeroE]
/-- an Ethernet frame that is handed back with an error number -/
def EtV (w0 : World) (H : List Chunk) (f : Eth) (e : Int) (v : Value) (H' : List Chunk) : Prop :=
  ∃ a n c G, v = .tuple #[EA f a n c, .int .i64 e] ∧ n = f.data.length ∧ Rd w0 G a n c 1 (f.data.map (.int .u8)) ∧ H' = G ++ H
def sameE (a b : Eth) : Bool := decide (t12 a.t = t12 b.t) && (a.tagged == b.tagged) && decide (a.tag = b.tag) && decide (a.typ = b.typ) && decide (a.data = b.data)
theorem sameE_refl (a : Eth) : sameE a a = true := by simp [sameE]
theorem wN_drop (l : List Int) (i : Nat) : wN (l.drop i) = bi l i * 256 + bi l (i + 1) := by unfold wN; rw [bi_drop, bi_drop]; rfl
def wrapF (id vcid sdt : Int) (es : List Int) : Frm := ⟨3, id, false, false, false, false, false, sdt, vcid, 0, es⟩
def wrapR (id vcid sdt : Int) (es : List Int) : Frm := if chkF (wrapF id vcid sdt es) = 0 then wrapF id vcid sdt es else zeroF 0
theorem wrap_ok {id vcid sdt : Int} {es : List Int} (h0 : 0 ≤ id ∧ id ≤ 4294967295) (h1 : 0 ≤ vcid ∧ vcid ≤ 255) (h2 : 0 ≤ sdt ∧ sdt ≤ 255) (h : Byte es) : FrOk (wrapF id vcid sdt es) := ⟨by show (-9223372036854775808 : Int) ≤ 3 ∧ (3 : Int) ≤ 9223372036854775807; omega, h0, h2, h1, by show (0 : Int) ≤ 0 ∧ (0 : Int) ≤ 4294967295; omega, h⟩
theorem zeroF0_ok : FrOk (zeroF 0) := ⟨by decide, by decide, by decide, by decide, by decide, Byte.nil⟩
theorem wrapR_ok {id vcid sdt : Int} {es : List Int} (h0 : 0 ≤ id ∧ id ≤ 4294967295) (h1 : 0 ≤ vcid ∧ vcid ≤ 255) (h2 : 0 ≤ sdt ∧ sdt ≤ 255) (h : Byte es) : FrOk (wrapR id vcid sdt es) := by
  unfold wrapR
  split
  · exact wrap_ok h0 h1 h2 h
  · exact zeroF0_ok
theorem wrapR_len (id vcid sdt : Int) (es : List Int) : (wrapR id vcid sdt es).data.length ≤ es.length := by
  unfold wrapR
  split
  · exact Nat.le_refl _
  · simp [zeroF]
def opens (f : Frm) : Prop := f.kind = 3 ∧ chkF f = 0
instance (f : Frm) : Decidable (opens f) := inferInstanceAs (Decidable (_ ∧ _))
def openE (f : Frm) : Eth := if opens f ∧ f.sdt = 3 then getEr f.data else zeroE
def openO (f : Frm) : Frm := if opens f ∧ f.sdt = 6 then oldR f.data else zeroF 0
def openS (f : Frm) : List Int := if opens f ∧ (f.sdt = 1 ∨ f.sdt = 8) then f.data else []
def openN (f : Frm) : Int := if opens f then (if f.sdt = 3 then getEe f.data else if f.sdt = 6 then oldE f.data else if f.sdt = 1 ∨ f.sdt = 8 then 0 else 10) else 2
def OpV (w0 : World) (H : List Chunk) (f : Frm) (v : Value) (H' : List Chunk) : Prop :=
  ∃ a1 n1 c1 a2 n2 c2 a3 n3 c3 G, v = .tuple #[EA (openE f) a1 n1 c1, FA (openO f) a2 n2 c2, .slice a3 n3 c3, .int .i64 (openN f)] ∧ n1 = (openE f).data.length ∧ n2 = (openO f).data.length ∧ n3 = (openS f).length ∧
    Rd w0 H' a1 n1 c1 1 ((openE f).data.map (.int .u8)) ∧ Rd w0 H' a2 n2 c2 1 ((openO f).data.map (.int .u8)) ∧ Rd w0 H' a3 n3 c3 1 ((openS f).map (.int .u8)) ∧ H' = G ++ H
theorem open_bd {f : Frm} (h : ¬ opens f) : openE f = zeroE ∧ openO f = zeroF 0 ∧ openS f = [] ∧ openN f = 2 := by
  refine ⟨if_neg (fun q => h q.1), if_neg (fun q => h q.1), if_neg (fun q => h q.1), if_neg h⟩
theorem open_al {f : Frm} (h : opens f) (hs : f.sdt ≠ 1 ∧ f.sdt ≠ 8 ∧ f.sdt ≠ 3 ∧ f.sdt ≠ 6) : openE f = zeroE ∧ openO f = zeroF 0 ∧ openS f = [] ∧ openN f = 10 := by
  refine ⟨if_neg (fun q => hs.2.2.1 q.2), if_neg (fun q => hs.2.2.2 q.2), if_neg (fun q => by rcases q.2 with h | h; exact hs.1 h; exact hs.2.1 h), ?_⟩
  unfold openN
  rw [if_pos h, if_neg hs.2.2.1, if_neg hs.2.2.2, if_neg (by omega)]
theorem open_rw {f : Frm} (h : opens f) (hs : f.sdt = 1 ∨ f.sdt = 8) : openE f = zeroE ∧ openO f = zeroF 0 ∧ openS f = f.data ∧ openN f = 0 := by
  refine ⟨if_neg (fun q => by omega), if_neg (fun q => by omega), if_pos ⟨h, hs⟩, ?_⟩
  unfold openN
  rw [if_pos h, if_neg (by omega), if_neg (by omega), if_pos hs]
theorem open_et {f : Frm} (h : opens f) (hs : f.sdt = 3) : openE f = getEr f.data ∧ openO f = zeroF 0 ∧ openS f = [] ∧ openN f = getEe f.data := by
  refine ⟨if_pos ⟨h, hs⟩, if_neg (fun q => by omega), if_neg (fun q => by omega), ?_⟩
  unfold openN
  rw [if_pos h, if_pos hs]
theorem open_ol {f : Frm} (h : opens f) (hs : f.sdt = 6) : openE f = zeroE ∧ openO f = oldR f.data ∧ openS f = [] ∧ openN f = oldE f.data := by
  refine ⟨if_neg (fun q => by omega), if_pos ⟨h, hs⟩, if_neg (fun q => by omega), ?_⟩
  unfold openN
  rw [if_pos h, if_neg (by omega), if_pos hs]
theorem open_len (f : Frm) : (openE f).data.length ≤ f.data.length ∧ (openO f).data.length ≤ f.data.length ∧ (openS f).length ≤ f.data.length := by
  unfold openE openO openS
  refine ⟨?_, ?_, ?_⟩
  · split
    · exact getEr_len _
    · simp [zeroE]
  · split
    · exact oldR_len _
    · simp [zeroF]
  · split <;> simp
theorem openO_ok {f : Frm} (h : Byte f.data) : FrOk (openO f) := by
  unfold openO
  split
  · exact oldR_ok h
  · exact zeroF0_ok
theorem Rd.nilZ {W : World} {H : List Chunk} : Rd W H Option.none 0 0 1 (([] : List Int).map (.int .u8)) := Rd.nilS
end Go.Sep
