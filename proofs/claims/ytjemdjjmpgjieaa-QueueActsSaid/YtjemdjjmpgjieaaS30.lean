import Derived.Test.YtjemdjjmpgjieaaS29
set_option linter.unusedVariables false
set_option linter.unusedSimpArgs false
/- Maps that are sets of whole numbers. -/
namespace Go.Sep
open Go Go.RowKit
attribute [local instance] Classical.propDecidable
/-- The entries of a set of whole numbers. -/
def entI (ki : IntKind) (j : Nat) (ids : List Int) : List MapEntry := ids.mapIdx fun i q => { key := .int ki q, val := .bool true, born := j + i }
/-- A set of whole numbers, in the order in which they came. -/
def setI (ki : IntKind) (ids : List Int) : Obj := .map (entI ki 0 ids).toArray ids.length
theorem entI_cons {ki : IntKind} {j : Nat} {q : Int} {ids : List Int} : entI ki j (q :: ids) = { key := .int ki q, val := .bool true, born := j } :: entI ki (j + 1) ids := by
  unfold entI
  rw [List.mapIdx_cons]
  congr 1
  apply List.ext_getElem?
  intro n
  rw [List.getElem?_mapIdx, List.getElem?_mapIdx]
  cases ids[n]? with
  | none => rfl
  | some x => simp; omega
theorem findI {ki : IntKind} {q : Int} : ∀ (ids : List Int) (j i : Nat), ∃ m, Instr.findNow (.int ki) (.int ki q) (entI ki j ids) i = some (if q ∈ ids then some (m, .bool true) else none)
  | [], j, i => ⟨0, by simp [entI, Instr.findNow]⟩
  | x :: ids, j, i => by
    by_cases h : q = x
    · subst h
      exact ⟨i, by rw [entI_cons]; simp [Instr.findNow, Instr.sameNow]⟩
    · obtain ⟨m, hm⟩ := findI (ki := ki) (q := q) ids (j + 1) (i + 1)
      refine ⟨m, ?_⟩
      rw [entI_cons]
      simp only [Instr.findNow, Instr.sameNow, if_true, show (q == x) = false by simp [h], hm, List.mem_cons, h, false_or]
section
variable {P : Program} {w0 : World} {N : Nat} {r : Option Nat} {fr : Fr} {ds : List Deferred} {H : List Chunk} {ops : Array Oper} {l : List Oper} {o : Oper} {K : Cont} {dd : Option Tmp}
theorem run_findI {w : World} (T : Tab P) {kt : TypeId} {ki : IntKind} {q : Int} {ids : List Int} (hdk : T.desc kt = some (.int ki)) : ∃ m, (Instr.findKey kt (.int ki q) (entI ki 0 ids)).run P w = .ok (if q ∈ ids then some (m, .bool true) else none) w := by
  obtain ⟨m, hm⟩ := findI (ki := ki) (q := q) ids 0 0
  refine ⟨m, ?_⟩
  unfold Instr.findKey
  simp only [Sem.run_bind, run_underlying (T.hdesc _ _ hdk), Result.andThen_ok, hm]
  rfl
theorem run_checkI {w : World} (T : Tab P) {kt : TypeId} {ki : IntKind} {q : Int} (hdk : T.desc kt = some (.int ki)) (e : Bool) : (Instr.checkKey e 10000 kt (.int ki q)).run P w = .ok () w := by
  unfold Instr.checkKey
  simp only [Sem.run_bind, run_underlying (T.hdesc _ _ hdk), Result.andThen_ok]
  rfl
/-- Whether a number is in a set. -/
theorem QV.inSetI (T : Tab P) {t kt et : TypeId} {x y : Operand} {b : Nat} {ki : IntKind} {q : Int} {ie : TypeInfo} {ids : List Int} {kk : Chunk → List Chunk} (ho : o.op = .lookup t x y false) (hx : ev fr x = .map (some b)) (hy : ev fr y = .int ki q) (hd : T.desc t = some (.map kt et)) (hdk : T.desc kt = some (.int ki)) (hie : T.info et = some ie) (hz : ie.zero = some (.bool false))
    (hat : At H (.obj b (setI ki ids)) kk) : QV P w0 fr H o (.bool (decide (q ∈ ids))) := by
  intro w hw
  obtain ⟨_, hb, _⟩ := hw.holds _ hat.mem
  obtain ⟨m, h1⟩ := run_findI (w := w) T (q := q) (ids := ids) hdk
  have hg : (getObj b).run P w = .ok (setI ki ids) w := by simp [getObj, Sem.run, hb, setI]
  simp only [execOp, ho, Instr.lookup, hx, hy, Sem.run_bind, run_underlying (T.hdesc _ _ hd), Result.andThen_ok, hg, setI, Sem.run_pure, run_checkI T hdk, h1]
  by_cases hm : q ∈ ids
  · simp [hm]
  · simp [hm, run_zero T hie hz]
theorem NV.mkSetI {R : Value → List Chunk → Prop} {t : TypeId} (ki : IntKind) (ho : o.op = .makeMap t none) (h : ∀ b, R (.map (some b)) (.obj b (setI ki []) :: H)) : NV P w0 r fr H o R := by
  refine ⟨fun c hc => (by rw [ho] at hc; cases hc), fun w hw => ?_⟩
  simp only [execOp, ho, Option.map_none, run_makeMap]
  exact ⟨_, hw.allocObj (.map #[] 0) (fun _ _ _ h => by cases h), h _⟩
/-- A number that isn't there is put into a set. -/
theorem NV.addSetI (T : Tab P) {R : Value → List Chunk → Prop} {t kt et : TypeId} {x y z : Operand} {b : Nat} {ki : IntKind} {q : Int} {ids : List Int} {kk : Chunk → List Chunk} (ho : o.op = .mapUpdate t x y z) (hx : ev fr x = .map (some b)) (hy : ev fr y = .int ki q) (hz : ev fr z = .bool true) (hd : T.desc t = some (.map kt et)) (hdk : T.desc kt = some (.int ki))
    (hat : At H (.obj b (setI ki ids)) kk) (hn : ¬ q ∈ ids)
    (h : R undef (kk (.obj b (setI ki (ids ++ [q]))))) : NV P w0 r fr H o R := by
  refine ⟨fun c hc => (by rw [ho] at hc; cases hc), fun w hw => ?_⟩
  obtain ⟨_, hb, _⟩ := hw.holds _ hat.mem
  obtain ⟨m, h1⟩ := run_findI (w := w) T (q := q) (ids := ids) hdk
  rw [if_neg hn] at h1
  have hg : (getObj b).run P w = .ok (setI ki ids) w := by simp [getObj, Sem.run, hb, setI]
  have hs : ∀ o', (setObj b o').run P w = .ok () (w.putObj b o') := fun o' => by simp [setObj, Sem.run, hb, World.putObj, setI]
  simp only [execOp, ho, Instr.mapUpdate, hx, hy, hz, Sem.run_bind, run_underlying (T.hdesc _ _ hd), Result.andThen_ok, hg, setI, Sem.run_pure, run_checkI T hdk, h1, hs]
  have e : (entI ki 0 ids).toArray.push { key := .int ki q, val := .bool true, born := ids.length } = (entI ki 0 (ids ++ [q])).toArray := by
    apply Array.ext'
    simp [entI]
  rw [e]
  have h' := Sat.putObj hw hat (o' := setI ki (ids ++ [q])) (fun _ _ _ h => by cases h)
  refine ⟨_, ?_, h⟩
  simpa [setI] using h'
end
end Go.Sep
