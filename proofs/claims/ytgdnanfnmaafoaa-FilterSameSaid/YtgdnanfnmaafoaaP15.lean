/- Rules and banks. -/
import Derived.Test.YtgdnanfnmaafoaaS17
import Derived.Test.YtgdnanfnmaafoaaP5b
set_option linter.unusedVariables false
set_option linter.unusedSimpArgs false
namespace Go.Sep
open Go
structure Rul where
  kinds : Int
  id : Int
  idm : Int
  sdt : Int
  sdtm : Int
  vcid : Int
  vcidm : Int
  af : Int
  afm : Int
  inn : Bool
instance : Inhabited Rul := ⟨⟨0, 0, 0, 0, 0, 0, 0, 0, 0, false⟩⟩
/-- A rule's numbers are of their kinds. -/
structure RuOk (q : Rul) : Prop where
  kinds : -9223372036854775808 ≤ q.kinds ∧ q.kinds ≤ 9223372036854775807
  id : 0 ≤ q.id ∧ q.id ≤ 4294967295
  idm : 0 ≤ q.idm ∧ q.idm ≤ 4294967295
  sdt : 0 ≤ q.sdt ∧ q.sdt ≤ 255
  sdtm : 0 ≤ q.sdtm ∧ q.sdtm ≤ 255
  vcid : 0 ≤ q.vcid ∧ q.vcid ≤ 255
  vcidm : 0 ≤ q.vcidm ∧ q.vcidm ≤ 255
  af : 0 ≤ q.af ∧ q.af ≤ 4294967295
  afm : 0 ≤ q.afm ∧ q.afm ≤ 4294967295
abbrev RuA (q : Rul) : Value := .agg #[.int .i64 q.kinds, .int .u32 q.id, .int .u32 q.idm, .int .u8 q.sdt, .int .u8 q.sdtm, .int .u8 q.vcid, .int .u8 q.vcidm, .int .u32 q.af, .int .u32 q.afm, .bool q.inn]
def RuC (q : Rul) : List Value := [.int .i64 q.kinds, .int .u32 q.id, .int .u32 q.idm, .int .u8 q.sdt, .int .u8 q.sdtm, .int .u8 q.vcid, .int .u8 q.vcidm, .int .u32 q.af, .int .u32 q.afm, .bool q.inn]
instance : RowE RuC 10 := ⟨fun _ => rfl, fun r u hu => by
  simp only [RuC, List.mem_cons, List.mem_nil_iff, or_false] at hu
  rcases hu with rfl | rfl | rfl | rfl | rfl | rfl | rfl | rfl | rfl | rfl <;> rfl⟩
/-! bits under a mask -/
theorem wrapN32 (x : BitVec 32) : IntKind.u32.wrap (x.toNat : Int) = (x.toNat : Int) := wrap_in (by simp only [loK]; omega) (by have := x.isLt; simp only [hiK]; omega)
theorem wrapN8 (x : BitVec 8) : IntKind.u8.wrap (x.toNat : Int) = (x.toNat : Int) := wrap_in (by simp only [loK]; omega) (by have := x.isLt; simp only [hiK]; omega)
theorem and32 (a b : Int) : andI .u32 a b = ((BitVec.ofInt 32 a &&& BitVec.ofInt 32 b).toNat : Int) := wrapN32 _
theorem and8 (a b : Int) : andI .u8 a b = ((BitVec.ofInt 8 a &&& BitVec.ofInt 8 b).toNat : Int) := wrapN8 _
theorem xor32 (a b : Int) : xorI .u32 a b = ((BitVec.ofInt 32 a ^^^ BitVec.ofInt 32 b).toNat : Int) := wrapN32 _
theorem xor8 (a b : Int) : xorI .u8 a b = ((BitVec.ofInt 8 a ^^^ BitVec.ofInt 8 b).toNat : Int) := wrapN8 _
theorem or32 (a b : Int) : orI .u32 a b = ((BitVec.ofInt 32 a ||| BitVec.ofInt 32 b).toNat : Int) := wrapN32 _
theorem ofInt_toNat {w : Nat} (x : BitVec w) : BitVec.ofInt w (x.toNat : Int) = x := by simp
theorem xor_and_zero {w : Nat} (A B M : BitVec w) : ((A ^^^ B) &&& M).toNat = 0 ↔ (A &&& M).toNat = (B &&& M).toNat := by
  have e : (A ^^^ B) &&& M = (A &&& M) ^^^ (B &&& M) := by
    ext i hi
    simp only [BitVec.getElem_and, BitVec.getElem_xor]
    cases A[i] <;> cases B[i] <;> cases M[i] <;> rfl
  constructor
  · intro h
    have h0 : (A ^^^ B) &&& M = 0#w := BitVec.eq_of_toNat_eq (by simpa using h)
    rw [e, BitVec.xor_eq_zero_iff] at h0
    rw [h0]
  · intro h
    have h0 := BitVec.eq_of_toNat_eq h
    rw [e, h0]
    simp
theorem mask32 (a b m : Int) : andI .u32 (xorI .u32 a b) m = 0 ↔ andI .u32 a m = andI .u32 b m := by
  rw [xor32, and32, and32, and32, ofInt_toNat]
  have := xor_and_zero (BitVec.ofInt 32 a) (BitVec.ofInt 32 b) (BitVec.ofInt 32 m)
  omega
theorem mask8 (a b m : Int) : andI .u8 (xorI .u8 a b) m = 0 ↔ andI .u8 a m = andI .u8 b m := by
  rw [xor8, and8, and8, and8, ofInt_toNat]
  have := xor_and_zero (BitVec.ofInt 8 a) (BitVec.ofInt 8 b) (BitVec.ofInt 8 m)
  omega
theorem and32_rng (a b : Int) : 0 ≤ andI .u32 a b ∧ andI .u32 a b ≤ 4294967295 := by
  rw [and32]; have := (BitVec.ofInt 32 a &&& BitVec.ofInt 32 b).isLt; omega
theorem and8_rng (a b : Int) : 0 ≤ andI .u8 a b ∧ andI .u8 a b ≤ 255 := by
  rw [and8]; have := (BitVec.ofInt 8 a &&& BitVec.ofInt 8 b).isLt; omega
theorem or32_rng (a b : Int) : 0 ≤ orI .u32 a b ∧ orI .u32 a b ≤ 4294967295 := by
  rw [or32]; have := (BitVec.ofInt 32 a ||| BitVec.ofInt 32 b).isLt; omega
theorem ofInt32_zero {x : Int} (h : 0 ≤ x ∧ x ≤ 4294967295) : BitVec.ofInt 32 x = 0#32 ↔ x = 0 := by
  constructor
  · intro e
    have := congrArg BitVec.toNat e
    rw [BitVec.toNat_ofInt] at this
    simp at this
    omega
  · rintro rfl; rfl
theorem or_zero {x y : Int} (hx : 0 ≤ x ∧ x ≤ 4294967295) (hy : 0 ≤ y ∧ y ≤ 4294967295) : orI .u32 x y = 0 ↔ x = 0 ∧ y = 0 := by
  rw [or32, ← ofInt32_zero hx, ← ofInt32_zero hy, ← BitVec.or_eq_zero_iff]
  constructor
  · intro h; exact BitVec.eq_of_toNat_eq (by simpa using h)
  · intro h; rw [h]; rfl
/-! rules -/
def mayR (q : Rul) : Bool := decide (1 ≤ q.kinds) && decide (q.kinds ≤ 7)
def kbit (kinds kind : Int) : Int := if kind = 3 then kinds / 4 else if kind = 2 then kinds / 2 % 2 else kinds % 2
def maskR (q : Rul) (f : Frm) : Bool := decide (andI .u32 f.id q.idm = andI .u32 q.id q.idm) && decide (andI .u8 f.sdt q.sdtm = andI .u8 q.sdt q.sdtm) && decide (andI .u8 f.vcid q.vcidm = andI .u8 q.vcid q.vcidm) && decide (andI .u32 f.af q.afm = andI .u32 q.af q.afm)
def ofR (q : Rul) (f : Frm) : Bool := decide (kbit q.kinds f.kind = 1) && maskR q f
def fitsR (q : Rul) (f : Frm) : Bool := mayR q && (decide (chkF f = 0) && ofR q f)
theorem kbit_eq {kinds kind : Int} (h1 : 1 ≤ kinds) (h2 : kinds ≤ 7) (h3 : 1 ≤ kind) (h4 : kind ≤ 3) : andI .i64 (kinds.fdiv (2 ^ (min (kind - 1).toNat IntKind.i64.bits))) 1 = kbit kinds kind := by
  rcases (by omega : kind = 1 ∨ kind = 2 ∨ kind = 3) with rfl | rfl | rfl <;>
  rcases (by omega : kinds = 1 ∨ kinds = 2 ∨ kinds = 3 ∨ kinds = 4 ∨ kinds = 5 ∨ kinds = 6 ∨ kinds = 7) with rfl | rfl | rfl | rfl | rfl | rfl | rfl <;> rfl
theorem mask_eq (q : Rul) (f : Frm) : decide (orI .u32 (orI .u32 (orI .u32 (andI .u32 (xorI .u32 f.id q.id) q.idm) (andI .u32 (xorI .u32 f.af q.af) q.afm)) (IntKind.u32.wrap (andI .u8 (xorI .u8 f.sdt q.sdt) q.sdtm))) (IntKind.u32.wrap (andI .u8 (xorI .u8 f.vcid q.vcid) q.vcidm)) = 0) = maskR q f := by
  have w8 : ∀ a b, IntKind.u32.wrap (andI .u8 a b) = andI .u8 a b := fun a b => wrap_in (by have := and8_rng a b; simp only [loK]; omega) (by have := and8_rng a b; simp only [hiK]; omega)
  have r8 : ∀ a b, 0 ≤ andI .u8 a b ∧ andI .u8 a b ≤ 4294967295 := fun a b => by have := and8_rng a b; omega
  rw [w8, w8, Bool.eq_iff_iff, decide_eq_true_iff, or_zero (or32_rng _ _) (r8 _ _), or_zero (or32_rng _ _) (r8 _ _), or_zero (and32_rng _ _) (and32_rng _ _), mask32, mask32, mask8, mask8]
  unfold maskR
  simp only [Bool.and_eq_true, decide_eq_true_eq]
  constructor
  · rintro ⟨⟨⟨h1, h2⟩, h3⟩, h4⟩; exact ⟨⟨⟨h1, h3⟩, h4⟩, h2⟩
  · rintro ⟨⟨⟨h1, h3⟩, h4⟩, h2⟩; exact ⟨⟨⟨h1, h2⟩, h3⟩, h4⟩
theorem chk_kind {f : Frm} (h : chkF f = 0) : 1 ≤ f.kind ∧ f.kind ≤ 3 := by
  unfold chkF at h
  split at h
  · rename_i g
    have := (okF_iff.1 g).1
    unfold codeS at this
    split at this
    · omega
    · split at this
      · omega
      · split at this
        · omega
        · cases this
  · cases h
theorem fits_may {q : Rul} {f : Frm} (h : ¬ (1 ≤ q.kinds ∧ q.kinds ≤ 7)) : fitsR q f = false := by
  have : mayR q = false := by unfold mayR; simp; omega
  unfold fitsR; rw [this]; rfl
theorem fits_chk {q : Rul} {f : Frm} (h : ¬ chkF f = 0) : fitsR q f = false := by
  unfold fitsR; rw [decide_eq_false h]; simp
theorem fits_of {q : Rul} {f : Frm} (h1 : 1 ≤ q.kinds) (h2 : q.kinds ≤ 7) (h : chkF f = 0) : fitsR q f = ofR q f := by
  unfold fitsR mayR; rw [decide_eq_true h1, decide_eq_true h2, decide_eq_true h]; simp
/-! the first of a row -/
section
variable {α : Type} [Inhabited α]
theorem any_step {p : α → Bool} {rs : List α} {k : Nat} (hk : k < rs.length) (hb : (rs.take k).any p = false) (h : p (rs.getD k default) = false) : (rs.take (k + 1)).any p = false := by
  have e : rs[k] = rs.getD k default := by rw [List.getD_eq_getElem?_getD, List.getElem?_eq_getElem hk]; rfl
  rw [List.take_succ_eq_append_getElem hk, List.any_append, hb, e, List.any_cons, h]
  rfl
omit [Inhabited α] in
theorem any_end {p : α → Bool} {rs : List α} {k : Nat} (hk : rs.length ≤ k) (hb : (rs.take k).any p = false) : rs.any p = false := by rwa [List.take_of_length_le hk] at hb
theorem any_hit {p : α → Bool} {rs : List α} {k : Nat} (hk : k < rs.length) (h : p (rs.getD k default) = true) : rs.any p = true := by
  have e : rs[k] = rs.getD k default := by rw [List.getD_eq_getElem?_getD, List.getElem?_eq_getElem hk]; rfl
  exact List.any_eq_true.2 ⟨rs[k], List.getElem_mem hk, by rw [e]; exact h⟩
def firstP (p : α → Bool) (rs : List α) : Int × Int := match rs.findIdx? p with | some i => ((i : Int), 0) | none => (0, 9)
theorem first_hit {p : α → Bool} {rs : List α} {k : Nat} (hk : k < rs.length) (hb : (rs.take k).any p = false) (h : p (rs.getD k default) = true) : firstP p rs = ((k : Int), 0) := by
  have e : rs[k] = rs.getD k default := by rw [List.getD_eq_getElem?_getD, List.getElem?_eq_getElem hk]; rfl
  have : rs.findIdx? p = some k := by
    rw [List.findIdx?_eq_some_iff_getElem]
    refine ⟨hk, by rw [e]; exact h, fun j hj => ?_⟩
    have h2 := List.any_eq_false.1 hb rs[j] (by rw [List.mem_take_iff_getElem]; exact ⟨j, by omega, rfl⟩)
    simpa using h2
  unfold firstP; rw [this]
omit [Inhabited α] in
theorem first_none {p : α → Bool} {rs : List α} (hb : rs.any p = false) : firstP p rs = (0, 9) := by
  have : rs.findIdx? p = none := by
    rw [List.findIdx?_eq_none_iff]
    intro x hx
    have := List.any_eq_false.1 hb x hx
    simpa using this
  unfold firstP; rw [this]
theorem first_lt {p : α → Bool} {rs : List α} (h : (firstP p rs).2 = 0) : 0 ≤ (firstP p rs).1 ∧ (firstP p rs).1 < rs.length ∧ p (rs.getD (firstP p rs).1.toNat default) = true := by
  unfold firstP at h ⊢
  cases hf : rs.findIdx? p with
  | none => rw [hf] at h; cases h
  | some i =>
    obtain ⟨hi, hp, _⟩ := List.findIdx?_eq_some_iff_getElem.1 hf
    refine ⟨by simp, by simp; omega, ?_⟩
    have e : rs[i] = rs.getD i default := by rw [List.getD_eq_getElem?_getD, List.getElem?_eq_getElem hi]; rfl
    simp only [Int.toNat_natCast]
    rw [← e]; exact hp
end
/-! banks -/
def badB (rs : List Rul) : Bool := rs.any fun q => !mayR q
def chkB (rs : List Rul) : Int := if 32 < rs.length ∨ badB rs = true then 2 else 0
def findB (rs : List Rul) (f : Frm) : Int × Int := if ¬ chkB rs = 0 ∨ ¬ chkF f = 0 then (0, 2) else firstP (fun q => fitsR q f) rs
def inB (rs : List Rul) (d : Bool) (f : Frm) : Bool × Int := if (findB rs f).2 = 0 then ((rs.getD (findB rs f).1.toNat default).inn, 0) else if (findB rs f).2 = 9 then (d, 0) else (false, (findB rs f).2)
theorem find_lt {rs : List Rul} {f : Frm} (h : (findB rs f).2 = 0) : 0 ≤ (findB rs f).1 ∧ (findB rs f).1 < rs.length := by
  unfold findB at h ⊢
  split at h
  · cases h
  · rename_i g; rw [if_neg g]; have := first_lt h; exact ⟨this.1, this.2.1⟩
theorem find_bad {rs : List Rul} {f : Frm} (h : ¬ chkB rs = 0 ∨ ¬ chkF f = 0) : findB rs f = (0, 2) := if_pos h
theorem find_ok {rs : List Rul} {f : Frm} (h1 : chkB rs = 0) (h2 : chkF f = 0) : findB rs f = firstP (fun q => fitsR q f) rs := if_neg (by simp [h1, h2])
theorem chkB_bad {rs : List Rul} (h : 32 < rs.length ∨ badB rs = true) : chkB rs = 2 := if_pos h
theorem chkB_ok {rs : List Rul} (h1 : rs.length ≤ 32) (h2 : badB rs = false) : chkB rs = 0 := if_neg (by rw [h2]; simp; omega)
end Go.Sep
namespace Go.Sep
open Go
theorem may_rng {q : Rul} (h : mayR q = true) : 1 ≤ q.kinds ∧ q.kinds ≤ 7 := by unfold mayR at h; simpa using h
theorem chkB_may {rs : List Rul} (h : chkB rs = 0) {k : Nat} (hk : k < rs.length) : 1 ≤ (rs.getD k default).kinds ∧ (rs.getD k default).kinds ≤ 7 := by
  unfold chkB at h
  split at h
  · cases h
  · rename_i g
    refine may_rng ?_
    cases hm : mayR (rs.getD k default) with
    | true => rfl
    | false => exact absurd (.inr (any_hit (p := fun q => !mayR q) hk (by show (!mayR (rs.getD k default)) = true; rw [hm]; rfl))) g
theorem kb3 {k j : Int} (h : j = 3) : kbit k j = k / 4 := if_pos h
theorem kb2 {k j : Int} (h : j = 2) : kbit k j = k / 2 % 2 := by unfold kbit; rw [if_neg (by omega), if_pos h]
theorem kb1 {k j : Int} (h : j ≠ 2) (h2 : j ≠ 3) : kbit k j = k % 2 := by unfold kbit; rw [if_neg h2, if_neg h]
theorem in_hit {rs : List Rul} {d : Bool} {f : Frm} (h : (findB rs f).2 = 0) : inB rs d f = ((rs.getD (findB rs f).1.toNat default).inn, 0) := if_pos h
theorem in_none {rs : List Rul} {d : Bool} {f : Frm} (h : (findB rs f).2 = 9) : inB rs d f = (d, 0) := by unfold inB; rw [if_neg (by omega), if_pos h]
theorem in_bad {rs : List Rul} {d : Bool} {f : Frm} (h : (findB rs f).2 ≠ 0) (h2 : (findB rs f).2 ≠ 9) : inB rs d f = (false, (findB rs f).2) := by unfold inB; rw [if_neg h, if_neg h2]
theorem bad_may {q : Rul} (h : q.kinds < 1 ∨ 7 < q.kinds) : (!mayR q) = true := by unfold mayR; simp; omega
theorem ok_may {q : Rul} (h : 1 ≤ q.kinds ∧ q.kinds ≤ 7) : (!mayR q) = false := by unfold mayR; simp; omega
end Go.Sep
namespace Go.Sep
theorem take_snoc {α : Type} [Inhabited α] {rs : List α} {k : Nat} (h : k < rs.length) : rs.take (k + 1) = rs.take k ++ [rs.getD k default] := by
  have e : rs[k] = rs.getD k default := by rw [List.getD_eq_getElem?_getD, List.getElem?_eq_getElem h]; rfl
  rw [List.take_succ_eq_append_getElem h, e]
end Go.Sep
namespace Go.Sep
open Go
def q0 : Rul := ⟨1, 16, 2032, 0, 0, 0, 0, 0, 0, true⟩
theorem ruOk0 : RuOk default := ⟨by decide, by decide, by decide, by decide, by decide, by decide, by decide, by decide, by decide⟩
theorem q0_ok : ∀ k, RuOk ([q0].getD k default)
  | 0 => ⟨by decide, by decide, by decide, by decide, by decide, by decide, by decide, by decide, by decide⟩
  | k + 1 => by simpa using ruOk0
theorem getD_ok {rs : List Rul} (h : ∀ q ∈ rs, RuOk q) (k : Nat) : RuOk (rs.getD k default) := by
  rcases Nat.lt_or_ge k rs.length with hk | hk
  · have e : rs[k] = rs.getD k default := by rw [List.getD_eq_getElem?_getD, List.getElem?_eq_getElem hk]; rfl
    rw [← e]; exact h _ (List.getElem_mem hk)
  · rw [List.getD_eq_getElem?_getD, List.getElem?_eq_none hk]; exact ruOk0
/-! masks -/
def q7 : Rul := ⟨7, 0, 0, 0, 0, 0, 0, 0, 0, false⟩
def shk (j : Int) : Int := IntKind.i64.wrap (1 * 2 ^ (min (j - 1).toNat IntKind.i64.bits))
def ofM (q : Rul) (f : Frm) : Rul := ⟨shk f.kind, f.id, q.idm, f.sdt, q.sdtm, f.vcid, q.vcidm, f.af, q.afm, false⟩
def ofW (f : Frm) : Rul := ⟨shk f.kind, f.id, 4294967295, f.sdt, 255, f.vcid, 255, f.af, 4294967295, false⟩
theorem shk_eq {j : Int} (h1 : 1 ≤ j) (h2 : j ≤ 3) : (j = 1 ∧ shk j = 1) ∨ (j = 2 ∧ shk j = 2) ∨ (j = 3 ∧ shk j = 4) := by
  rcases (by omega : j = 1 ∨ j = 2 ∨ j = 3) with rfl | rfl | rfl
  · exact .inl ⟨rfl, rfl⟩
  · exact .inr (.inl ⟨rfl, rfl⟩)
  · exact .inr (.inr ⟨rfl, rfl⟩)
theorem kbit_shk {i j : Int} (h1 : 1 ≤ j) (h2 : j ≤ 3) (h3 : 1 ≤ i) (h4 : i ≤ 3) : kbit (shk j) i = 1 ↔ i = j := by
  rcases shk_eq h1 h2 with ⟨rfl, e⟩ | ⟨rfl, e⟩ | ⟨rfl, e⟩ <;> rw [e] <;>
  rcases (by omega : i = 1 ∨ i = 2 ∨ i = 3) with rfl | rfl | rfl <;> decide
theorem and32_full {a : Int} (h : 0 ≤ a ∧ a ≤ 4294967295) : andI .u32 a 4294967295 = a := by
  rw [and32, show BitVec.ofInt 32 4294967295 = BitVec.allOnes 32 from rfl, BitVec.and_allOnes, BitVec.toNat_ofInt]
  omega
theorem and8_full {a : Int} (h : 0 ≤ a ∧ a ≤ 255) : andI .u8 a 255 = a := by
  rw [and8, show BitVec.ofInt 8 255 = BitVec.allOnes 8 from rfl, BitVec.and_allOnes, BitVec.toNat_ofInt]
  omega
theorem shk_rng {j : Int} (h1 : 1 ≤ j) (h2 : j ≤ 3) : 1 ≤ shk j ∧ shk j ≤ 7 := by rcases shk_eq h1 h2 with ⟨_, e⟩ | ⟨_, e⟩ | ⟨_, e⟩ <;> omega
def sameH (f g : Frm) : Bool := decide (f.kind = g.kind) && decide (f.id = g.id) && decide (f.sdt = g.sdt) && decide (f.vcid = g.vcid) && decide (f.af = g.af)
theorem mask_own {q : Rul} {f : Frm} (h : chkF f = 0) : fitsR (ofM q f) f = true := by
  have hk := chk_kind h
  have h7 := shk_rng hk.1 hk.2
  rw [fits_of (q := ofM q f) h7.1 h7.2 h]
  unfold ofR maskR
  simp only [ofM, Bool.and_eq_true, decide_eq_true_eq, and_true, true_and]
  exact decide_eq_true ((kbit_shk hk.1 hk.2 hk.1 hk.2).2 rfl)
theorem mask_same {q : Rul} {f g : Frm} (h : chkF f = 0) (h2 : chkF g = 0) (hs : sameH f g = true) : fitsR (ofM q f) g = true := by
  have hk := chk_kind h
  have hk2 := chk_kind h2
  have h7 := shk_rng hk.1 hk.2
  unfold sameH at hs
  simp only [Bool.and_eq_true, decide_eq_true_eq] at hs
  obtain ⟨⟨⟨⟨e1, e2⟩, e3⟩, e4⟩, e5⟩ := hs
  rw [fits_of (q := ofM q f) h7.1 h7.2 h2]
  unfold ofR maskR
  simp only [ofM, Bool.and_eq_true, decide_eq_true_eq, e2, e3, e4, e5, and_true]
  exact (kbit_shk hk.1 hk.2 hk2.1 hk2.2).2 e1.symm
theorem mask_whole {f g : Frm} (h : chkF f = 0) (h2 : chkF g = 0) (hf : FrOk f) (hg : FrOk g) : fitsR (ofW f) g = sameH f g := by
  have hk := chk_kind h
  have hk2 := chk_kind h2
  have h7 := shk_rng hk.1 hk.2
  rw [fits_of (q := ofW f) h7.1 h7.2 h2]
  unfold ofR maskR sameH
  simp only [ofW, and32_full hf.id, and32_full hg.id, and32_full hf.af, and32_full hg.af, and8_full hf.sdt, and8_full hg.sdt, and8_full hf.vcid, and8_full hg.vcid]
  rw [Bool.eq_iff_iff]
  simp only [Bool.and_eq_true, decide_eq_true_eq, kbit_shk hk.1 hk.2 hk2.1 hk2.2]
  constructor
  · rintro ⟨e1, ⟨⟨e2, e3⟩, e4⟩, e5⟩; exact ⟨⟨⟨⟨e1.symm, e2.symm⟩, e3.symm⟩, e4.symm⟩, e5.symm⟩
  · rintro ⟨⟨⟨⟨e1, e2⟩, e3⟩, e4⟩, e5⟩; exact ⟨e1.symm, ⟨⟨e2.symm, e3.symm⟩, e4.symm⟩, e5.symm⟩
theorem shk_wide (j : Int) : -9223372036854775808 ≤ shk j ∧ shk j ≤ 9223372036854775807 := wrap_range .i64 _
theorem ofM_ok {q : Rul} {f : Frm} (hq : RuOk q) (hf : FrOk f) : RuOk (ofM q f) := ⟨shk_wide _, hf.id, hq.idm, hf.sdt, hq.sdtm, hf.vcid, hq.vcidm, hf.af, hq.afm⟩
theorem c32 : (0 : Int) ≤ 4294967295 ∧ (4294967295 : Int) ≤ 4294967295 := by decide
theorem c8 : (0 : Int) ≤ 255 ∧ (255 : Int) ≤ 255 := by decide
theorem ofW_ok {f : Frm} (hf : FrOk f) : RuOk (ofW f) := ⟨shk_wide _, hf.id, c32, hf.sdt, c8, hf.vcid, c8, hf.af, c32⟩
theorem q7_ok : RuOk q7 := ⟨by decide, by decide, by decide, by decide, by decide, by decide, by decide, by decide, by decide⟩
end Go.Sep
namespace Go.Sep
open Go
theorem shk_def (j : Int) : IntKind.i64.wrap (1 * 2 ^ (min (j - 1).toNat IntKind.i64.bits)) = shk j := by unfold shk; rfl
attribute [irreducible] shk
end Go.Sep
namespace Go.Sep
open Go
theorem ok_snoc {rs : List Rul} {q : Rul} (h : ∀ k, RuOk (rs.getD k default)) (hq : RuOk q) (k : Nat) : RuOk ((rs ++ [q]).getD k default) := by
  rw [List.getD_eq_getElem?_getD, List.getElem?_append]
  split
  · have := h k; rwa [List.getD_eq_getElem?_getD] at this
  · cases hk : k - rs.length with
    | zero => simpa using hq
    | succ j => simpa using ruOk0
end Go.Sep
namespace Go.Sep
open Go
theorem chkB_app {rs ys : List Rul} (h : chkB (rs ++ ys) = 0) : chkB rs = 0 ∧ chkB ys = 0 := by
  unfold chkB badB at *
  split at h
  · cases h
  · rename_i g
    rw [List.any_append, List.length_append] at g
    have h1 : (rs.any fun q => !mayR q) = false := by cases e : rs.any fun q => !mayR q <;> simp_all
    have h2 : (ys.any fun q => !mayR q) = false := by cases e : ys.any fun q => !mayR q <;> simp_all
    rw [h1, h2]
    constructor <;> (rw [if_neg]; simp; omega)
theorem first_app {α : Type} (p : α → Bool) (rs ys : List α) : firstP p (rs ++ ys) = if (firstP p rs).2 = 0 then firstP p rs else if (firstP p ys).2 = 0 then ((firstP p ys).1 + rs.length, 0) else (0, 9) := by
  unfold firstP
  rw [List.findIdx?_append]
  cases h1 : rs.findIdx? p with
  | some i => simp
  | none =>
    cases h2 : ys.findIdx? p with
    | some i => simp
    | none => simp
theorem find_or {rs : List Rul} {f : Frm} (h1 : chkB rs = 0) (h2 : chkF f = 0) : (findB rs f).2 = 0 ∨ findB rs f = (0, 9) := by
  rw [find_ok h1 h2]
  unfold firstP
  split
  · exact .inl rfl
  · exact .inr rfl
theorem in_zero {rs : List Rul} {d : Bool} {f : Frm} (h1 : chkB rs = 0) (h2 : chkF f = 0) : (inB rs d f).2 = 0 := by
  rcases find_or h1 h2 with h | h
  · rw [in_hit h]
  · rw [in_none (by rw [h])]
theorem one_find (q : Rul) (f : Frm) : firstP (fun q => fitsR q f) [q] = if fitsR q f = true then (0, 0) else (0, 9) := by
  unfold firstP
  cases h : fitsR q f <;> simp [List.findIdx?_cons, h]
theorem getD_app {α : Type} [Inhabited α] {rs ys : List α} {k : Nat} (h : k < rs.length) : (rs ++ ys).getD k default = rs.getD k default := by
  rw [List.getD_eq_getElem?_getD, List.getD_eq_getElem?_getD, List.getElem?_append_left h]
theorem adds_hit {rs : List Rul} {q : Rul} {d : Bool} {f : Frm} (h1 : chkB (rs ++ [q]) = 0) (h2 : chkF f = 0) (h : (findB rs f).2 = 0) : findB (rs ++ [q]) f = findB rs f ∧ inB (rs ++ [q]) d f = inB rs d f := by
  have h3 := (chkB_app h1).1
  have e : findB (rs ++ [q]) f = findB rs f := by
    rw [find_ok h3 h2] at h ⊢
    rw [find_ok h1 h2, first_app, if_pos h]
  have hl := find_lt h
  refine ⟨e, ?_⟩
  rw [in_hit h, in_hit (by rw [e]; exact h), e, getD_app (by omega)]
theorem adds_new {rs : List Rul} {q : Rul} {d : Bool} {f : Frm} (h1 : chkB (rs ++ [q]) = 0) (h2 : chkF f = 0) (h : (findB rs f).2 ≠ 0) (hq : fitsR q f = true) : findB (rs ++ [q]) f = ((rs.length : Int), 0) ∧ inB (rs ++ [q]) d f = (q.inn, 0) := by
  have h3 := (chkB_app h1).1
  have e : findB (rs ++ [q]) f = ((rs.length : Int), 0) := by
    rw [find_ok h3 h2] at h
    rw [find_ok h1 h2, first_app, if_neg h, one_find, if_pos hq]
    simp
  refine ⟨e, ?_⟩
  rw [in_hit (by rw [e]), e]
  simp
theorem adds_none {rs : List Rul} {q : Rul} {d : Bool} {f : Frm} (h1 : chkB (rs ++ [q]) = 0) (h2 : chkF f = 0) (h : (findB rs f).2 ≠ 0) (hq : fitsR q f = false) : findB (rs ++ [q]) f = (0, 9) ∧ inB (rs ++ [q]) d f = (d, 0) ∧ inB rs d f = (d, 0) := by
  have h3 := (chkB_app h1).1
  have e : findB (rs ++ [q]) f = (0, 9) := by
    rw [find_ok h3 h2] at h
    rw [find_ok h1 h2, first_app, if_neg h, one_find, if_neg (by rw [hq]; simp)]
  have e2 : findB rs f = (0, 9) := (find_or h3 h2).resolve_left h
  refine ⟨e, ?_, ?_⟩
  · rw [in_none (by rw [e])]
  · rw [in_none (by rw [e2])]
end Go.Sep
namespace Go.Sep
open Go
def qA (x : Bool) : Rul := ⟨7, 0, 0, 0, 0, 0, 0, 0, 0, x⟩
def fl (q : Rul) : Rul := ⟨q.kinds, q.id, q.idm, q.sdt, q.sdtm, q.vcid, q.vcidm, q.af, q.afm, !q.inn⟩
theorem qA_ok (x : Bool) : RuOk (qA x) := ⟨by decide +revert, by decide +revert, by decide +revert, by decide +revert, by decide +revert, by decide +revert, by decide +revert, by decide +revert, by decide +revert⟩
theorem fl_ok {q : Rul} (h : RuOk q) : RuOk (fl q) := ⟨h.kinds, h.id, h.idm, h.sdt, h.sdtm, h.vcid, h.vcidm, h.af, h.afm⟩
theorem mapk_get {α : Type} [Inhabited α] {g : α → α} {rs : List α} {k : Nat} (h : k < rs.length) : ((rs.take k).map g ++ rs.drop k)[k]? = some (rs.getD k default) := by
  rw [List.getElem?_append_right (by rw [List.length_map, List.length_take]; omega), List.length_map, List.length_take, List.getElem?_drop, show k + (k - min k rs.length) = k by omega]
  exact get_dflt rs h
theorem mapk_step {α : Type} [Inhabited α] {g : α → α} {rs : List α} {k : Nat} (h : k < rs.length) : ((rs.take k).map g ++ rs.drop k).set k (g (rs.getD k default)) = (rs.take (k + 1)).map g ++ rs.drop (k + 1) := by
  have e : rs.drop k = rs.getD k default :: rs.drop (k + 1) := by
    rw [List.drop_eq_getElem_cons h, List.getD_eq_getElem?_getD, List.getElem?_eq_getElem h]
    rfl
  rw [take_snoc h, List.map_append, List.set_append_right _ _ (by rw [List.length_map, List.length_take]; omega), List.length_map, List.length_take, show k - min k rs.length = 0 by omega, e]
  simp
theorem mapk_end {α : Type} {g : α → α} {rs : List α} {k : Nat} (h : rs.length ≤ k) : (rs.take k).map g ++ rs.drop k = rs.map g := by
  rw [List.take_of_length_le h, List.drop_of_length_le h, List.append_nil]
theorem mapk_len {α : Type} {g : α → α} {rs : List α} {k : Nat} : ((rs.take k).map g ++ rs.drop k).length = rs.length := by
  rw [List.length_append, List.length_map, List.length_take, List.length_drop]; omega
theorem fl_getD {rs : List Rul} {k : Nat} (h : k < rs.length) : (rs.map fl).getD k default = fl (rs.getD k default) := by
  rw [List.getD_eq_getElem?_getD, List.getElem?_map, List.getD_eq_getElem?_getD, List.getElem?_eq_getElem h]
  rfl
theorem fls_ok {rs : List Rul} (h : ∀ k, RuOk (rs.getD k default)) (k : Nat) : RuOk ((rs.map fl).getD k default) := by
  rcases Nat.lt_or_ge k rs.length with hk | hk
  · rw [fl_getD hk]; exact fl_ok (h k)
  · rw [List.getD_eq_getElem?_getD, List.getElem?_eq_none (by simpa using hk)]; exact ruOk0
theorem qAs_ok {rs : List Rul} {x : Bool} (h : ∀ k, RuOk (rs.getD k default)) : ∀ k, RuOk (([qA x] ++ rs).getD k default)
  | 0 => qA_ok x
  | k + 1 => by have := h k; simpa using this
theorem fl_chk (rs : List Rul) : chkB (rs.map fl) = chkB rs := by
  unfold chkB badB
  rw [List.length_map, List.any_map]
  rfl
theorem fl_find (rs : List Rul) (f : Frm) : findB (rs.map fl) f = findB rs f := by
  unfold findB firstP
  rw [fl_chk, List.findIdx?_map]
  rfl
theorem fl_in {rs : List Rul} {d : Bool} {f : Frm} (h1 : chkB rs = 0) (h2 : chkF f = 0) : inB (rs.map fl) (!d) f = (!(inB rs d f).1, 0) := by
  rcases find_or h1 h2 with h | h
  · have hl := find_lt h
    rw [in_hit (by rw [fl_find]; exact h), in_hit h, fl_find, fl_getD (by omega)]
    rfl
  · rw [in_none (by rw [fl_find, h]), in_none (by rw [h])]
theorem qA_fits {x : Bool} {f : Frm} (h : chkF f = 0) : fitsR (qA x) f = true := by
  have hk := chk_kind h
  rw [fits_of (q := qA x) (by decide +revert) (by decide +revert) h]
  unfold ofR maskR
  have z32 : ∀ a, andI .u32 a 0 = 0 := fun a => by rw [and32]; simp
  have z8 : ∀ a, andI .u8 a 0 = 0 := fun a => by rw [and8]; simp
  simp only [qA, z32, z8, Bool.and_eq_true, decide_eq_true_eq, and_true]
  rcases (by omega : f.kind = 1 ∨ f.kind = 2 ∨ f.kind = 3) with e | e | e <;> rw [e] <;> rfl
theorem qA_chk {x : Bool} {rs : List Rul} (h : chkB rs = 0) (hl : rs.length ≤ 31) : chkB ([qA x] ++ rs) = 0 := by
  refine chkB_ok (by simp; omega) ?_
  unfold chkB at h
  split at h
  · cases h
  · rename_i g
    unfold badB at *
    rw [List.any_append]
    have h1 : (rs.any fun q => !mayR q) = false := by cases e : rs.any fun q => !mayR q <;> simp_all
    rw [h1]; rfl
theorem qA_find {x : Bool} {rs : List Rul} {f : Frm} (h : chkB rs = 0) (hl : rs.length ≤ 31) (h2 : chkF f = 0) : findB ([qA x] ++ rs) f = (0, 0) := by
  rw [find_ok (qA_chk h hl) h2, first_app, one_find, if_pos (qA_fits h2)]
  rfl
theorem qA_in {x d : Bool} {rs : List Rul} {f : Frm} (h : chkB rs = 0) (hl : rs.length ≤ 31) (h2 : chkF f = 0) : inB ([qA x] ++ rs) d f = (x, 0) := by
  have e := qA_find (x := x) h hl h2
  rw [in_hit (by rw [e]), e]
  rfl
end Go.Sep
