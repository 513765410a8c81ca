import Derived.Test.YtjemdjjmpgjieaaS22
set_option linter.unusedVariables false
set_option linter.unusedSimpArgs false
/- Maps of a few known keys that are whole numbers. -/
namespace Go.Sep
open Go Go.RowKit
section
variable {P : Program} {w0 : World} {N : Nat} {r : Option Nat} {fr : Fr} {ds : List Deferred} {H : List Chunk} {ops : Array Oper} {l : List Oper} {o : Oper} {K : Cont} {dd : Option Tmp}
def ent (k v : Value) (i : Nat) : MapEntry := { key := k, val := v, born := i }
theorem NV.mkMap {R : Value → List Chunk → Prop} {t : TypeId} (ho : o.op = .makeMap t none) (h : ∀ b, R (.map (some b)) (.obj b (.map #[] 0) :: H)) : NV P w0 r fr H o R := by
  refine ⟨fun c hc => (by rw [ho] at hc; cases hc), fun w hw => ?_⟩
  simp only [execOp, ho, Option.map_none, run_makeMap]
  exact ⟨_, hw.allocObj (.map #[] 0) (fun _ _ _ h => by cases h), h _⟩
/-- A key that isn't there is put in. -/
theorem NV.insN (T : Tab P) {R : Value → List Chunk → Prop} {t kt et : TypeId} {x y z : Operand} {b cl : Nat} {ki : IntKind} {q : Int} {v : Value} {es : List MapEntry} {kk : Chunk → List Chunk} (ho : o.op = .insert t x y z) (hx : ev fr x = .map (some b)) (hy : ev fr y = .int ki q) (hz : ev fr z = v) (hd : T.desc t = some (.map kt et)) (hdk : T.desc kt = some (.int ki))
    (hat : At H (.obj b (.map es.toArray cl)) kk) (hf : Instr.findNow (.int ki) (.int ki q) es 0 = some none)
    (h : R undef (kk (.obj b (.map (es ++ [ent (.int ki q) v cl]).toArray (cl + 1))))) : NV P w0 r fr H o R := by
  refine ⟨fun c hc => (by rw [ho] at hc; cases hc), fun w hw => ?_⟩
  obtain ⟨_, hb, _⟩ := hw.holds _ hat.mem
  have hg : (getObj b).run P w = .ok (.map es.toArray cl) w := by simp [getObj, Sem.run, hb]
  have hs : ∀ o', (setObj b o').run P w = .ok () (w.putObj b o') := fun o' => by simp [setObj, Sem.run, hb, World.putObj]
  have hck : (Instr.checkKey false 10000 kt (.int ki q)).run P w = .ok () w := by
    unfold Instr.checkKey
    simp only [Sem.run_bind, run_underlying (T.hdesc _ _ hdk), Result.andThen_ok]
    rfl
  have hfk : (Instr.findKey kt (.int ki q) es).run P w = .ok none w := by
    unfold Instr.findKey
    simp only [Sem.run_bind, run_underlying (T.hdesc _ _ hdk), Result.andThen_ok, hf]
    rfl
  simp only [execOp, ho, Instr.mapUpdate, hx, hy, hz, Sem.run_bind, run_underlying (T.hdesc _ _ hd), Result.andThen_ok, hg, Sem.run_pure, hck, hfk, hs]
  have e : es.toArray.push { key := .int ki q, val := v, born := cl } = (es ++ [ent (.int ki q) v cl]).toArray := by
    apply Array.ext'
    simp [ent]
  rw [e]
  exact ⟨_, Sat.putObj hw hat (fun _ _ _ h => by cases h), h⟩
/-- What stands under a key, and whether it stands there. -/
theorem QV.lookC (T : Tab P) {t kt et : TypeId} {x y : Operand} {b cl : Nat} {ki : IntKind} {q : Int} {ie : TypeInfo} {z v : Value} {is : Bool} {es : List MapEntry} {kk : Chunk → List Chunk} (ho : o.op = .lookup t x y true) (hx : ev fr x = .map (some b)) (hy : ev fr y = .int ki q) (hd : T.desc t = some (.map kt et)) (hdk : T.desc kt = some (.int ki)) (hie : T.info et = some ie) (hz : ie.zero = some z)
    (hat : At H (.obj b (.map es.toArray cl)) kk) (hf : (Instr.findNow (.int ki) (.int ki q) es 0).map (fun r => match r with | some (_, v) => (v, true) | none => (z, false)) = some (v, is)) : QV P w0 fr H o (.tuple #[v, .bool is]) := by
  intro w hw
  obtain ⟨_, hb, _⟩ := hw.holds _ hat.mem
  have hg : (getObj b).run P w = .ok (.map es.toArray cl) w := by simp [getObj, Sem.run, hb]
  have hck : ∀ e, (Instr.checkKey e 10000 kt (.int ki q)).run P w = .ok () w := by
    intro e
    unfold Instr.checkKey
    simp only [Sem.run_bind, run_underlying (T.hdesc _ _ hdk), Result.andThen_ok]
    rfl
  cases hfn : Instr.findNow (.int ki) (.int ki q) es 0 with
  | none => rw [hfn] at hf; cases hf
  | some rr =>
    rw [hfn] at hf
    have hfk : (Instr.findKey kt (.int ki q) es).run P w = .ok rr w := by
      unfold Instr.findKey
      simp only [Sem.run_bind, run_underlying (T.hdesc _ _ hdk), Result.andThen_ok, hfn]
      rfl
    simp only [execOp, ho, Instr.lookup, hx, hy, Sem.run_bind, run_underlying (T.hdesc _ _ hd), Result.andThen_ok, hg, Sem.run_pure, hck, hfk]
    cases rr with
    | none =>
      simp only [Option.map_some, Option.some.injEq, Prod.mk.injEq] at hf
      obtain ⟨rfl, rfl⟩ := hf
      simp [run_zero T hie hz]
    | some p =>
      obtain ⟨i, v'⟩ := p
      simp only [Option.map_some, Option.some.injEq, Prod.mk.injEq] at hf
      obtain ⟨rfl, rfl⟩ := hf
      simp
theorem satl {G X : List Chunk} (h : ∃ w, Sat w0 w (G ++ X)) : ∃ w, Sat w0 w G := by
  obtain ⟨w, hw⟩ := h
  exact ⟨w, Sat.sub (List.sublist_append_left G X) hw⟩
theorem Rd.appr {G X : List Chunk} {a : Option Addr} {n c sz : Nat} {xs : List Value} (h : Rd w0 G a n c sz xs) : Rd w0 (G ++ X) a n c sz xs := h.weaken fun _ hw => Sat.sub (List.sublist_append_left G X) hw
end
end Go.Sep
