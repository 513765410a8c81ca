import Derived.Test.YtjemdjjmpgjieaaS20
import Derived.Test.YtjemdjjmpgjieaaS19
set_option linter.unusedVariables false
set_option linter.unusedSimpArgs false
/- Slices of bytes as elements of a row. -/
namespace Go.Sep
open Go Go.RowKit
structure Sl where
  a : Option Addr
  n : Nat
  c : Nat
  d : List Int
instance : Inhabited Sl := ⟨⟨none, 0, 0, []⟩⟩
abbrev SlV (q : Sl) : Value := .slice q.a q.n q.c
structure SlOk (w0 : World) (H : List Chunk) (q : Sl) : Prop where
  len : q.n = q.d.length
  max : q.n ≤ 140737488351232
  byte : Byte q.d
  rd : Rd w0 H q.a q.n q.c 1 (q.d.map (.int .u8))
theorem SlOk.dflt {w0 : World} {H : List Chunk} : SlOk w0 H default := ⟨rfl, by decide, Byte.nil, Rd.nilS⟩
theorem SlOk.cons {w0 : World} {H : List Chunk} {q : Sl} {x : Chunk} (h : SlOk w0 H q) : SlOk w0 (x :: H) q := ⟨h.len, h.max, h.byte, h.rd.cons⟩
theorem SlOk.app {w0 : World} {G H : List Chunk} {q : Sl} (h : SlOk w0 H q) : SlOk w0 (G ++ H) q := ⟨h.len, h.max, h.byte, h.rd.app⟩
def catD (L : List Sl) : List Int := L.flatMap (·.d)
theorem slv_get {L : List Sl} {k : Nat} (hk : k < L.length) : (L.map SlV)[k]? = some (SlV (L.getD k default)) := by
  rw [List.getElem?_map, List.getElem?_eq_getElem hk, List.getD_eq_getElem?_getD, List.getElem?_eq_getElem hk]; rfl
theorem catD_take {L : List Sl} {k : Nat} (hk : k < L.length) : catD (L.take (k + 1)) = catD (L.take k) ++ (L.getD k default).d := by
  rw [List.take_succ_eq_append_getElem hk, catD, List.flatMap_append]
  rw [List.getD_eq_getElem?_getD, List.getElem?_eq_getElem hk]
  simp [catD]
theorem catD_le (L : List Sl) (k : Nat) : (catD (L.take k)).length ≤ (catD L).length := by
  have h := congrArg (fun l => (catD l).length) (List.take_append_drop k L)
  simp only [catD, List.flatMap_append, List.length_append] at h ⊢
  omega
theorem catD_len {L : List Sl} {k m : Nat} (hk : k < L.length) (h : m = (L.getD k default).d.length) : (catD (L.take (k + 1))).length = (catD (L.take k)).length + m := by
  rw [catD_take hk, List.length_append, h]
/-- A slice's room. -/
theorem QV.cap {P : Program} {w0 : World} {fr : Fr} {H : List Chunk} {o : Oper} (T : Tab P) {cl : Call} {t e : TypeId} {x : Operand} {a : Option Addr} {n c : Nat} (ho : o.op = .call cl) (hcl : cl = { callee := .builtin .cap, args := #[x], argTypes := #[t] }) (hd : T.desc t = some (.slice e)) (hx : ev fr x = .slice a n c) : QV P w0 fr H o (.int .i64 (c : Int)) := by
  subst hcl
  intro w _
  simp [execOp, ho, resolve, invoke, builtin, Builtin.cap_, run_ul T hd, hx, goInt]
end Go.Sep
