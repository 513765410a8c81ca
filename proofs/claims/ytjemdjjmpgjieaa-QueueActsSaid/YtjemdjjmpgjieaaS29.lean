import Derived.Test.YtjemdjjmpgjieaaS28
import Derived.Test.YtjemdjjmpgjieaaS22
import Derived.Test.YtjemdjjmpgjieaaS14
import Derived.KernelRfl
set_option linter.unusedVariables false
set_option linter.unusedSimpArgs false
/- A string's byte; parts of a row of whole numbers. -/
namespace Go.Sep
open Go Go.RowKit
theorem or_disjA {k : IntKind} {a b : Int} {m s : Nat} (ha : a = (m : Int) * 2 ^ s) (h0 : 0 ≤ b) (hb : b < 2 ^ s) (hab : a + b ≤ hiK k) : orI k a b = a + b := by
  obtain ⟨bn, rfl⟩ := Int.eq_ofNat_of_zero_le h0
  have hbn : bn < 2 ^ s := by exact_mod_cast hb
  have ha' : a = ((m * 2 ^ s : Nat) : Int) := by rw [ha]; simp
  subst ha'
  clear ha
  have key : m * 2 ^ s ||| bn = m * 2 ^ s + bn := by
    rw [Nat.mul_comm]; exact (Nat.two_pow_add_eq_or_of_lt hbn m).symm
  have hsum : ((m * 2 ^ s + bn : Nat) : Int) ≤ hiK k := by rw [Int.natCast_add]; exact hab
  have fin : ∀ w : Nat, (m * 2 ^ s + bn) < 2 ^ w → (BitVec.ofInt w ((m * 2 ^ s : Nat) : Int) ||| BitVec.ofInt w (bn : Int)).toNat = m * 2 ^ s + bn := by
    intro w hw
    rw [BitVec.toNat_or]
    have e1 : (BitVec.ofInt w ((m * 2 ^ s : Nat) : Int)).toNat = m * 2 ^ s := by
      rw [BitVec.ofInt_natCast, BitVec.toNat_ofNat, Nat.mod_eq_of_lt (by omega)]
    have e2 : (BitVec.ofInt w (bn : Int)).toNat = bn := by
      rw [BitVec.ofInt_natCast, BitVec.toNat_ofNat, Nat.mod_eq_of_lt (by omega)]
    rw [e1, e2, key]
  unfold orI
  cases k
  all_goals
    rw [fin _ (by simp only [hiK] at hsum; show _ < 2 ^ _; simp only [IntKind.bits]; omega)]
    rw [wrap_in (by simp only [loK]; omega) hsum, Int.natCast_add]
/-- High bits and low bits joined, of any kind. -/
theorem QV.orA {P : Program} {w0 : World} {fr : Fr} {H : List Chunk} {o : Oper} (T : Tab P) {t yt : TypeId} {x y : Operand} {k : IntKind} {a b : Int} (m s : Nat) (ho : o.op = .binOp .or t x y yt) (hx : ev fr x = .int k a) (hy : ev fr y = .int k b) (ha : a = (m : Int) * 2 ^ s) (h0 : 0 ≤ b) (hb : b < 2 ^ s) (hab : a + b ≤ hiK k) : QV P w0 fr H o (.int k (a + b)) := by
  refine QV.intv T ho hx hy ?_
  rw [intv_or, or_disjA ha h0 hb hab]
theorem Yld.wk {P : Program} {w0 : World} {r : Option Nat} {L : Nat} {as : List Value} {H : List Chunk} {R : Value → List Chunk → Prop} {H0 : List Chunk} (h : Yld P w0 r L as H0 R) (hs : SubL H H0 := by first | exact SubI.out | ((try simp only [List.append_assoc, List.cons_append, List.nil_append]); repeat first | with_reducible exact SubL.refl _ | with_reducible exact SubL.nil _ | refine SubL.cons (by first | ((repeat first | with_reducible exact Tk.head _ _ | with_reducible apply Tk.tail | with_reducible apply Tk.app); done) | (repeat first | exact Tk.head _ _ | apply Tk.tail | apply Tk.app)) ?_ | refine SubL.consL (by repeat first | with_reducible exact TkL.head _ _ | with_reducible apply TkL.tail | with_reducible apply TkL.app) ?_ | exact SubL.one (by repeat first | with_reducible exact TkL.head _ _ | with_reducible exact TkL.all _ | with_reducible apply TkL.tail | with_reducible apply TkL.app) | with_reducible apply SubL.drop | with_reducible apply SubL.dropL)) : Yld P w0 r L as H R := fun w hw => h w (hs.sat hw)
theorem nul_ne : ((⟨#[0]⟩ : ByteArray).toList == (⟨#[]⟩ : ByteArray).toList) = false := by kernel_rfl
section
variable {P : Program} {w0 : World} {N : Nat} {r : Option Nat} {fr : Fr} {H : List Chunk} {o : Oper}
theorem QV.idxS (T : Tab P) {t : TypeId} {x i : Operand} {s : ByteArray} {k : IntKind} {j : Int} {b : UInt8} (ho : o.op = .index t x i) (hx : ev fr x = .string s) (hi : ev fr i = .int k j) (hd : T.desc t = some .string) (h : (if 0 ≤ j then s[j.toNat]? else none) = some b) : QV P w0 fr H o (.int .u8 b.toNat) := by
  intro w _
  simp [execOp, ho, Instr.index, asIntOf, hi, run_ul T hd, hx]
  rw [h]
  simp
theorem Rd.seg {a : Option Addr} {n c : Nat} {k : IntKind} (l h : Nat) {es : List Int} (hR : Rd w0 H a n c 1 (es.map (Value.int k))) (h1 : l ≤ h) (h2 : h ≤ n) : Rd w0 H (subA a l c 1) (h - l) (c - l) 1 (((es.drop l).take (h - l)).map (Value.int k)) := by
  have := hR.sub h1 h2
  rwa [Nat.mul_one, Nat.mul_one, ← List.map_drop, ← List.map_take] at this
theorem Rd.tk {a : Option Addr} {n c : Nat} {k : IntKind} (h : Nat) {es : List Int} (hR : Rd w0 H a n c 1 (es.map (Value.int k))) (h2 : h ≤ n) : Rd w0 H a h c 1 ((es.take h).map (Value.int k)) := by
  have := hR.pre h h2
  rwa [subA_zero, Nat.sub_zero, Nat.sub_zero] at this
end
end Go.Sep
