/- Calls through an interface; a value asked out of one. -/
import Derived.Test.YtjemdjjmpgjieaaS30
set_option linter.unusedVariables false
set_option linter.unusedSimpArgs false
namespace Go.Sep
open Go Go.RowKit
section
variable {P : Program} {w0 : World} {N : Nat} {r : Option Nat} {fr : Fr} {ds : List Deferred} {H : List Chunk} {ops : Array Oper} {l : List Oper} {o : Oper} {K : Cont} {KQ : Fr → Prop} {dd : Option Tmp}
theorem run_tinfo {t : TypeId} {i : TypeInfo} (h : P.info? t = some i) (w : World) : (typeInfo t).run P w = .ok i w := by
  simp [typeInfo, Sem.run_bind, run_program, h]
/-- A method of a pointer's type that takes the value behind it. -/
theorem run_method_val {t elem : TypeId} {name : String} {f : FuncId} {i : TypeInfo} {m : Go.Method} (hi : P.info? t = some i) (hm : i.methods.find? (·.name == name) = some m) (hp : m.path = #[]) (hf : m.func = some (f, false)) (hu : P.underlying t = some (.pointer elem)) (k : Nat) {a : Addr} {v : Value} {w : World}
    (hl : (loadVar elem a).run P w = .ok v w) : (Go.method (k + Made.depth) t (.pointer (some a)) name).run P w = .ok (f, v) w := by
  show (Go.method ((k + 99) + 1) t (.pointer (some a)) name).run P w = _
  generalize k + 99 = q
  have hch : ∀ nm : String, (Builtin.ssaWrapNilChk_ #[t] t #[.pointer (some a), strVal "", strVal nm]).run P w = .ok (.pointer (some a)) w := fun _ => rfl
  simp only [Go.method, Sem.run_bind, run_tinfo hi, Result.andThen_ok, hm, hp, hf]
  simp [follow, receiverAt, run_underlying hu, Place.get, hch, asAddr, hl]
theorem run_method_ptr {t elem : TypeId} {name : String} {f : FuncId} {i : TypeInfo} {m : Go.Method} (hi : P.info? t = some i) (hm : i.methods.find? (·.name == name) = some m) (hp : m.path = #[]) (hf : m.func = some (f, true)) (hu : P.underlying t = some (.pointer elem)) (k : Nat) {v : Value} {w : World} :
    (Go.method (k + Made.depth) t v name).run P w = .ok (f, v) w := by
  show (Go.method ((k + 99) + 1) t v name).run P w = _
  generalize k + 99 = q
  simp only [Go.method, Sem.run_bind, run_tinfo hi, Result.andThen_ok, hm, hp, hf]
  simp [follow, receiverAt, run_underlying hu, Place.get]
/-- A method called through an interface's value. -/
theorem NV.inv {R R' : Value → List Chunk → Prop} {cl : Call} {rc : Operand} {name : String} {t : TypeId} {v rv : Value} {f : FuncId} {as : List Value}
    (ho : o.op = .call cl) (hc : cl.callee = .invoke rc name) (hv : ev fr rc = .iface t v) (hm : ∀ w, Sat w0 w H → (Go.method (P.types.size + Made.depth) t v name).run P w = .ok (f, rv) w) (hf : Fun P f) (ha : evs fr cl.args.toList = as)
    (hS : SC P w0 f (rv :: as).toArray H R') (hk : ∀ v H', R' v H' → R v H') : NV P w0 r fr H o R := by
  subst ha
  refine ⟨fun c hc => (by rw [ho] at hc; cases hc), fun w hw => ?_⟩
  have e1 : #[rv] ++ (cl.args.map (ev fr)) = (rv :: evs fr cl.args.toList).toArray := by
    apply Array.ext'
    simp [← ev_map]
  have e2 : (#[Value.iface t v] ++ cl.args.map (ev fr)).extract 1 (#[Value.iface t v] ++ cl.args.map (ev fr)).size = cl.args.map (ev fr) := by
    apply Array.ext'
    simp [List.take_of_length_le]
  have e3 : (#[Value.iface t v] ++ cl.args.map (ev fr))[0]? = some (Value.iface t v) := by rw [Array.getElem?_append_left (by simp)]; rfl
  have e4 : (resolve (ev fr) cl o.type).run P w = .ok { target := .fn (.method name) #[], args := #[Value.iface t v] ++ cl.args.map (ev fr) } w := by
    unfold resolve
    simp only [hc, hv]
    rfl
  have e5 : (invoke (.fn (.method name) #[]) (#[Value.iface t v] ++ cl.args.map (ev fr))).run P w = (callMethod (.iface t v) name (cl.args.map (ev fr))).run P w := by
    unfold invoke
    simp only [e3, e2]
  have e6 : (callMethod (.iface t v) name (cl.args.map (ev fr))).run P w = (callFunc f (#[rv] ++ cl.args.map (ev fr))).run P w := by
    simp only [callMethod, Sem.run_bind, run_program, Result.andThen_ok, hm w hw]
  simp only [execOp, ho, Sem.run_bind, e4, Result.andThen_ok, e5, e6, e1]
  rw [hf _ w]
  exact (hS w hw).mono fun e w' ⟨v, H', he, hs, hR⟩ => ⟨v, H', he, hs, hk v H' hR⟩
/-- The value of just that type (a struct), out of an interface. -/
theorem QV.tas (T : Tab P) {x : Operand} {t xt : TypeId} {v : Value} {fs : Array Field} (ho : o.op = .typeAssert x xt t false) (hx : ev fr x = .iface t v) (hd : T.desc t = some (.struct fs)) : QV P w0 fr H o v := by
  intro w _
  have h : (Instr.typeAssert (.iface t v) xt t false).run P w = .ok v w := by
    simp [Instr.typeAssert, run_ul T hd, go_sem, Result.andThen]
  simp only [execOp, ho, hx, Sem.run_bind, h, Result.andThen_ok, Sem.run_pure]
end
end Go.Sep
