/- Frames as bytes: what is put, what is got. -/
import Derived.Test.YtecgicpimgghaaaS22
import Derived.Test.YtecgicpimgghaaaP5b
set_option linter.unusedVariables false
set_option linter.unusedSimpArgs false
namespace Go.Sep
open Go
def b2 (b : Bool) (n : Int) : Int := if b = true then n else 0
def flagsI (f : Frm) : Nat → Int
  | 0 => 0
  | 1 => b2 (decide (f.kind = 2)) 1
  | 2 => b2 (decide (f.kind = 2)) 1 + b2 f.ext 2
  | 3 => b2 (decide (f.kind = 2)) 1 + b2 f.ext 2 + b2 f.rtr 4
  | 4 => b2 (decide (f.kind = 2)) 1 + b2 f.ext 2 + b2 f.rtr 4 + b2 f.brs 8
  | _ => b2 (decide (f.kind = 2)) 1 + b2 f.ext 2 + b2 f.rtr 4 + b2 f.brs 8 + b2 f.esi 16
def flagsF (f : Frm) : Int := flagsI f 5
theorem b2_rng (b : Bool) {n : Int} (h : 0 ≤ n) : 0 ≤ b2 b n ∧ b2 b n ≤ n := by unfold b2; split <;> omega
theorem flagsI_rng (f : Frm) (k : Nat) : 0 ≤ flagsI f k ∧ flagsI f k < 2 ^ k ∨ 5 < k := by
  have h1 := b2_rng (decide (f.kind = 2)) (n := 1) (by omega)
  have h2 := b2_rng f.ext (n := 2) (by omega)
  have h3 := b2_rng f.rtr (n := 4) (by omega)
  have h4 := b2_rng f.brs (n := 8) (by omega)
  have h5 := b2_rng f.esi (n := 16) (by omega)
  rcases k with _ | _ | _ | _ | _ | _ | k
  all_goals first | (right; omega) | skip
  all_goals (left; simp only [flagsI]; omega)
def oldB (f : Frm) : List Int := [flagsF f, f.id / 2 ^ 24, f.id / 2 ^ 16 % 256, f.id / 2 ^ 8 % 256, f.id % 256, (f.data.length : Int) % 256] ++ f.data
def putO (f : Frm) : List Int × Int := if f.kind = 3 ∨ chkF f ≠ 0 then ([], 2) else (oldB f, 0)
theorem putO_bad {f : Frm} (h : f.kind = 3 ∨ chkF f ≠ 0) : putO f = ([], 2) := if_pos h
theorem putO_ok {f : Frm} (h : f.kind ≠ 3) (h2 : chkF f = 0) : putO f = (oldB f, 0) := if_neg (by omega)
def bi (es : List Int) (i : Nat) : Int := es.getD i 0
def oldId (es : List Int) : Int := bi es 1 * 2 ^ 24 + bi es 2 * 2 ^ 16 + bi es 3 * 2 ^ 8 + bi es 4
/-- the frame with the first k flags set -/
def oldS (es : List Int) (k : Nat) : Frm := ⟨1 + bi es 0 % 2, oldId es, decide (1 < k) && decide (bi es 0 / 2 % 2 = 1), decide (2 < k) && decide (bi es 0 / 4 % 2 = 1), decide (3 < k) && decide (bi es 0 / 8 % 2 = 1), decide (4 < k) && decide (bi es 0 / 16 % 2 = 1), false, 0, 0, 0, es.drop 6⟩
def oldF (es : List Int) : Frm := oldS es 5
def oldE (es : List Int) : Int := if es.length < 6 then 3 else if 32 ≤ bi es 0 then 5 else if (es.length : Int) < 6 + bi es 5 then 3 else if 6 + bi es 5 < es.length then 7 else if chkF (oldF es) ≠ 0 then 5 else 0
def oldR (es : List Int) : Frm := if oldE es = 0 then oldF es else zeroF 0
/-- a frame that is handed back with an error number: its bytes lie in what is held -/
def FrV (w0 : World) (H : List Chunk) (f : Frm) (e : Int) (v : Value) (H' : List Chunk) : Prop :=
  ∃ a n c G, v = .tuple #[FA f a n c, .int .i64 e] ∧ n = f.data.length ∧ Rd w0 H' a n c 1 (f.data.map (.int .u8)) ∧ H' = G ++ H
def two (y : Int) : List Int := [y / 2 ^ 8, y % 256]
theorem old_row {f : Frm} {n : Nat} (hf : FrOk f) (hn : n = f.data.length) : ([flagsF f] ++ [f.id / 2 ^ 16, f.id % 65536].flatMap two) ++ [(n : Int) % 256] ++ f.data = oldB f := by
  have h1 := hf.id
  subst hn
  simp only [oldB, two, List.flatMap_cons, List.flatMap_nil, List.cons_append, List.nil_append]
  have e1 : f.id / 2 ^ 16 / 2 ^ 8 = f.id / 2 ^ 24 := by omega
  have e2 : f.id % 65536 / 2 ^ 8 = f.id / 2 ^ 8 % 256 := by omega
  have e3 : f.id % 65536 % 256 = f.id % 256 := by omega
  rw [e1, e2, e3]
theorem oldB_len (f : Frm) : (oldB f).length = 6 + f.data.length := by simp [oldB]; omega
theorem old_max {f : Frm} (h : f.kind ≠ 3) (h2 : chkF f = 0) : f.data.length ≤ 64 := by
  have h3 := code_len (okF_iff.1 (chk_ok_iff.1 h2)).1
  omega
theorem two_ok {a b : Int} (ha : 0 ≤ a ∧ a ≤ 65535) (hb : 0 ≤ b ∧ b ≤ 65535) (k : Nat) : 0 ≤ [a, b].getD k 0 ∧ [a, b].getD k 0 ≤ 65535 := by
  rcases k with _ | _ | k
  · exact ha
  · exact hb
  · simp
theorem bi_rng {es : List Int} (h : Byte es) (i : Nat) : 0 ≤ bi es i ∧ bi es i ≤ 255 := h.get i
theorem bi_drop {es : List Int} (i j : Nat) : bi (es.drop i) j = bi es (i + j) := by
  unfold bi; rw [List.getD_eq_getElem?_getD, List.getD_eq_getElem?_getD, List.getElem?_drop]
theorem oldE_short {es : List Int} (h : es.length < 6) : oldR es = zeroF 0 ∧ oldE es = 3 := by
  have e : oldE es = 3 := if_pos h
  exact ⟨by rw [oldR, if_neg (by omega)], e⟩
theorem oldE_form {es : List Int} (h : 6 ≤ es.length) (h2 : 32 ≤ bi es 0) : oldR es = zeroF 0 ∧ oldE es = 5 := by
  have e : oldE es = 5 := by rw [oldE, if_neg (by omega), if_pos h2]
  exact ⟨by rw [oldR, if_neg (by omega)], e⟩
theorem oldE_less {es : List Int} (h : 6 ≤ es.length) (h2 : bi es 0 < 32) (h3 : (es.length : Int) < 6 + bi es 5) : oldR es = zeroF 0 ∧ oldE es = 3 := by
  have e : oldE es = 3 := by rw [oldE, if_neg (by omega), if_neg (by omega), if_pos h3]
  exact ⟨by rw [oldR, if_neg (by omega)], e⟩
theorem oldE_more {es : List Int} (h : 6 ≤ es.length) (h2 : bi es 0 < 32) (h3 : 6 + bi es 5 < es.length) : oldR es = zeroF 0 ∧ oldE es = 7 := by
  have e : oldE es = 7 := by rw [oldE, if_neg (by omega), if_neg (by omega), if_neg (by omega), if_pos h3]
  exact ⟨by rw [oldR, if_neg (by omega)], e⟩
theorem oldE_chk {es : List Int} (h : 6 ≤ es.length) (h2 : bi es 0 < 32) (h3 : (es.length : Int) = 6 + bi es 5) (h4 : chkF (oldF es) ≠ 0) : oldR es = zeroF 0 ∧ oldE es = 5 := by
  have e : oldE es = 5 := by rw [oldE, if_neg (by omega), if_neg (by omega), if_neg (by omega), if_neg (by omega), if_pos h4]
  exact ⟨by rw [oldR, if_neg (by omega)], e⟩
theorem oldE_ok {es : List Int} (h : 6 ≤ es.length) (h2 : bi es 0 < 32) (h3 : (es.length : Int) = 6 + bi es 5) (h4 : chkF (oldF es) = 0) : oldR es = oldF es ∧ oldE es = 0 := by
  have e : oldE es = 0 := by rw [oldE, if_neg (by omega), if_neg (by omega), if_neg (by omega), if_neg (by omega), if_neg (by omega)]
  exact ⟨by rw [oldR, if_pos e], e⟩
theorem oldS_ok {es : List Int} (h : Byte es) (k : Nat) : FrOk (oldS es k) := by
  have h0 := bi_rng h 0
  have h1 := bi_rng h 1
  have h2 := bi_rng h 2
  have h3 := bi_rng h 3
  have h4 := bi_rng h 4
  refine ⟨?_, ?_, by show (0 : Int) ≤ 0 ∧ (0 : Int) ≤ 255; omega, by show (0 : Int) ≤ 0 ∧ (0 : Int) ≤ 255; omega, by show (0 : Int) ≤ 0 ∧ (0 : Int) ≤ 4294967295; omega, h.drop 6⟩
  · show -9223372036854775808 ≤ 1 + bi es 0 % 2 ∧ 1 + bi es 0 % 2 ≤ 9223372036854775807
    omega
  · show 0 ≤ oldId es ∧ oldId es ≤ 4294967295
    unfold oldId; omega
theorem oldId_eq (es : List Int) : (bi es 1 * 256 + bi es 2) * 2 ^ 16 + (bi es 3 * 256 + bi es 4) = oldId es := by unfold oldId; omega
theorem putO_len (f : Frm) : (putO f).1.length ≤ 70 := by
  by_cases h : f.kind = 3 ∨ chkF f ≠ 0
  · rw [putO_bad h]; simp
  · rw [putO_ok (by omega) (by omega)]
    have h1 := old_max (f := f) (by omega) (by omega)
    have h2 := oldB_len f
    show (oldB f).length ≤ 70
    omega
theorem oldR_ok {es : List Int} (h : Byte es) : FrOk (oldR es) := by
  unfold oldR
  split
  · exact oldS_ok h 5
  · exact ⟨by decide, by decide, by decide, by decide, by decide, Byte.nil⟩
theorem oldR_len (es : List Int) : (oldR es).data.length ≤ es.length := by
  unfold oldR
  split
  · show (es.drop 6).length ≤ _
    rw [List.length_drop]; omega
  · simp [zeroF]
end Go.Sep
