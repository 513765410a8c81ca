/- Parts of a string. -/
import Derived.Test.YtokihacnhefbfaaDoorS32
set_option linter.unusedVariables false
set_option linter.unusedSimpArgs false
namespace Go.Sep
open Go
theorem strI_extract (es : List Int) (l h : Nat) (h2 : h ≤ es.length) : (strI es).extract l h = strI ((es.take h).drop l) := by
  apply ByteArray.ext
  rw [ByteArray.data_extract]
  show ((es.map fun n => UInt8.ofNat n.toNat).toArray).extract l h = (((es.take h).drop l).map fun n => UInt8.ofNat n.toNat).toArray
  rw [List.extract_toArray, List.extract_eq_take_drop, List.map_drop, List.map_take, List.drop_take]
section
variable {P : Program} {w0 : World} {fr : Fr} {H : List Chunk} {o : Oper}
theorem QV.strTk (T : Tab P) {t : TypeId} {x hi : Operand} {es : List Int} {k : IntKind} {zh : Int} {h1 : Nat} (ho : o.op = .slice t x none (some hi) none) (hx : ev fr x = .string (strI es)) (hd : T.desc t = some .string) (hh : ev fr hi = .int k zh) (e : zh = (h1 : Int)) (hb : h1 ≤ es.length) : QV P w0 fr H o (.string (strI (es.take h1))) := by
  subst e
  intro w _
  have hz := strI_size es
  simp only [execOp, ho, Instr.sliceAt, Instr.slice, Sem.run_bind, run_ul T hd, Result.andThen_ok, hx]
  have hle : h1 ≤ (strI es).size := by omega
  simp [Instr.sliceBounds, Instr.sliceBound, asIntOf, hh, hle, strI_extract es 0 h1 hb]
theorem QV.strDp (T : Tab P) {t : TypeId} {x lo : Operand} {es : List Int} {k : IntKind} {zl : Int} {l1 : Nat} (ho : o.op = .slice t x (some lo) none none) (hx : ev fr x = .string (strI es)) (hd : T.desc t = some .string) (hh : ev fr lo = .int k zl) (e : zl = (l1 : Int)) (hb : l1 ≤ es.length) : QV P w0 fr H o (.string (strI (es.drop l1))) := by
  subst e
  intro w _
  have hz := strI_size es
  simp only [execOp, ho, Instr.sliceAt, Instr.slice, Sem.run_bind, run_ul T hd, Result.andThen_ok, hx]
  have hle : l1 ≤ (strI es).size := by omega
  have he : (strI es).extract l1 (strI es).size = strI (es.drop l1) := by rw [strI_extract es l1 _ (by omega), hz, List.take_length]
  simp [Instr.sliceBounds, Instr.sliceBound, asIntOf, hh, hle, he]
theorem QV.strAdd {t yt : TypeId} {x y : Operand} {a b : ByteArray} {es fs : List Int} (ho : o.op = .binOp .add t x y yt) (hx : ev fr x = .string a) (hy : ev fr y = .string b) (ha : a = strI es) (hb : b = strI fs) (hl : es.length + fs.length ≤ 140737488351232) : QV P w0 fr H o (.string (strI (es ++ fs))) := by
  subst ha hb
  intro w _
  have h1 : (binOp .add t (.string (strI es)) (.string (strI fs))).run P w = .ok (.string (strI (es ++ fs))) w := by
    show (Op.stringOp .add (strI es) (strI fs)).run P w = _
    unfold Op.stringOp
    have : ¬ (((strI es).size + (strI fs).size : Nat) : Int) > IntKind.i64.max := by
      rw [strI_size, strI_size]
      have : IntKind.i64.max = 9223372036854775807 := by decide
      omega
    simp only [if_neg this, Sem.run_pure, strI_append]
  have h2 : (eqGuard .add t x y (.string (strI es)) (.string (strI fs))).run P w = .ok () w := by simp [eqGuard]
  simp [execOp, ho, hx, hy, h1, h2]
end
end Go.Sep
