import Derived.Test.YtjemdjjmpgjieaaS18
set_option linter.unusedVariables false
set_option linter.unusedSimpArgs false
/- Maps that are sets: keys that are structs, each value true. -/
namespace Go.Sep
open Go Go.RowKit
attribute [local instance] Classical.propDecidable
/-- A set of keys, in the order in which they came. -/
noncomputable def setO (ks : List Value) : Obj := .map (ks.mapIdx fun i k => { key := k, val := .bool true, born := i }).toArray ks.length
theorem run_findAsking {P : Program} {kt : TypeId} {k : Value} {w : World} : ∀ (es : List MapEntry) (i : Nat), (∀ e ∈ es, (Op.equal kt k e.key).run P w = .ok (decide (e.key = k)) w ∧ e.val = .bool true) →
    ∃ j, (Instr.findAsking kt k es i).run P w = .ok (if k ∈ es.map (·.key) then some (i + j, .bool true) else none) w ∧ (k ∈ es.map (·.key) → ∃ e, es[j]? = some e ∧ e.key = k)
  | [], i, _ => ⟨0, by simp [Instr.findAsking], fun h => by simp at h⟩
  | e :: es, i, h => by
    obtain ⟨h1, h2⟩ := h e (by simp)
    by_cases hk : e.key = k
    · refine ⟨0, ?_, fun _ => ⟨e, rfl, hk⟩⟩
      simp only [Instr.findAsking, Sem.run_bind, h1, Result.andThen_ok]
      simp [hk, h2]
    · obtain ⟨j, h3, h4⟩ := run_findAsking es (i + 1) (fun e' he' => h e' (by simp [he']))
      refine ⟨j + 1, ?_, fun hm => ?_⟩
      · simp only [Instr.findAsking, Sem.run_bind, h1, Result.andThen_ok]
        have hk' : ¬ k = e.key := fun h => hk h.symm
        simp only [hk, decide_false, Bool.false_eq_true, if_false, h3, List.map_cons, List.mem_cons, hk', false_or, show i + 1 + j = i + (j + 1) by omega]
      · have hk' : ¬ k = e.key := fun h => hk h.symm
        simp only [List.map_cons, List.mem_cons, hk', false_or] at hm
        obtain ⟨e', he', hek⟩ := h4 hm
        exact ⟨e', by simpa using he', hek⟩
theorem setO_keys (ks : List Value) : (ks.mapIdx fun i k => ({ key := k, val := .bool true, born := i } : MapEntry)).map (·.key) = ks := by
  apply List.ext_getElem?
  intro n
  rw [List.getElem?_map, List.getElem?_mapIdx]
  cases ks[n]? <;> rfl
theorem setO_get {ks : List Value} {e : MapEntry} (h : e ∈ (ks.mapIdx fun i k => ({ key := k, val := .bool true, born := i } : MapEntry))) : e.val = .bool true ∧ e.key ∈ ks := by
  obtain ⟨i, hi, rfl⟩ := List.mem_iff_getElem.1 h
  simp
theorem run_findKey {P : Program} {kt : TypeId} {k : Value} {w : World} {fs : Array Field} {ks : List Value} (hk : P.underlying kt = some (.struct fs)) (he : ∀ x ∈ ks, (Op.equal kt k x).run P w = .ok (decide (x = k)) w) :
    ∃ j, (Instr.findKey kt k (ks.mapIdx fun i k => ({ key := k, val := .bool true, born := i } : MapEntry))).run P w = .ok (if k ∈ ks then some (j, .bool true) else none) w ∧ (k ∈ ks → ks[j]? = some k) := by
  obtain ⟨j, h1, h2⟩ := run_findAsking (P := P) (kt := kt) (k := k) (w := w) (ks.mapIdx fun i k => ({ key := k, val := .bool true, born := i } : MapEntry)) 0 (fun e hm => ⟨he _ (setO_get hm).2, (setO_get hm).1⟩)
  rw [setO_keys] at h1 h2
  refine ⟨j, ?_, fun hm => ?_⟩
  · unfold Instr.findKey
    simp only [Sem.run_bind, run_underlying hk, Result.andThen_ok]
    rw [Nat.zero_add] at h1
    cases ks with
    | nil => simp [Instr.findNow]
    | cons x xs =>
      have hn : Instr.findNow (.struct fs) k ((x :: xs).mapIdx fun i k => ({ key := k, val := .bool true, born := i } : MapEntry)) 0 = none := by
        simp only [List.mapIdx_cons, Instr.findNow, Instr.sameNow]
      rw [hn]
      exact h1
  · obtain ⟨e, hj, hek⟩ := h2 hm
    rw [List.getElem?_mapIdx] at hj
    cases hx : ks[j]? with
    | none => rw [hx] at hj; cases hj
    | some y => rw [hx] at hj; simp only [Option.map_some, Option.some.injEq] at hj; subst hj; rw [← hek]
section
variable {P : Program} {w0 : World} {N : Nat} {r : Option Nat} {fr : Fr} {ds : List Deferred} {H : List Chunk} {ops : Array Oper} {l : List Oper} {o : Oper} {K : Cont} {dd : Option Tmp}
/-- Whether a key is in a set. -/
theorem QV.inSet (T : Tab P) {o : Oper} {t kt et : TypeId} {x y : Operand} {b : Nat} {k : Value} {fs : Array Field} {ie : TypeInfo} {ks : List Value} {kk : Chunk → List Chunk} (ho : o.op = .lookup t x y false) (hx : ev fr x = .map (some b)) (hy : ev fr y = k) (hd : T.desc t = some (.map kt et)) (hdk : T.desc kt = some (.struct fs)) (hie : T.info et = some ie) (hz : ie.zero = some (.bool false))
    (hat : At H (.obj b (setO ks)) kk) (hck : ∀ (e : Bool) (w : World), (Instr.checkKey e 10000 kt k).run P w = .ok () w) (he : ∀ x ∈ ks, ∀ w, (Op.equal kt k x).run P w = .ok (decide (x = k)) w) : QV P w0 fr H o (.bool (decide (k ∈ ks))) := by
  intro w hw
  subst hy
  obtain ⟨_, hb, _⟩ := hw.holds _ hat.mem
  obtain ⟨j, h1, _⟩ := run_findKey (P := P) (w := w) (T.hdesc _ _ hdk) (fun x hx => he x hx w)
  have hg : (getObj b).run P w = .ok (setO ks) w := by simp [getObj, Sem.run, hb, setO]
  simp only [execOp, ho, Instr.lookup, hx, Sem.run_bind, run_underlying (T.hdesc _ _ hd), Result.andThen_ok, hg, setO, Sem.run_pure, hck, h1]
  by_cases hm : ev fr y ∈ ks
  · simp [hm]
  · simp [hm, run_zero T hie hz]
/-- A new set. -/
theorem NV.mkSet {o : Oper} {R : Value → List Chunk → Prop} {t : TypeId} (ho : o.op = .makeMap t none) (h : ∀ b, R (.map (some b)) (.obj b (setO []) :: H)) : NV P w0 r fr H o R := by
  refine ⟨fun c hc => (by rw [ho] at hc; cases hc), fun w hw => ?_⟩
  simp only [execOp, ho, Option.map_none, run_makeMap]
  exact ⟨_, hw.allocObj (.map #[] 0) (fun _ _ _ h => by cases h), h _⟩
/-- A key is put into a set. -/
theorem NV.addSet (T : Tab P) {o : Oper} {R : Value → List Chunk → Prop} {t kt et : TypeId} {x y z : Operand} {b : Nat} {k : Value} {fs : Array Field} {ks : List Value} {kk : Chunk → List Chunk} (ho : o.op = .mapUpdate t x y z) (hx : ev fr x = .map (some b)) (hy : ev fr y = k) (hz : ev fr z = .bool true) (hd : T.desc t = some (.map kt et)) (hdk : T.desc kt = some (.struct fs))
    (hat : At H (.obj b (setO ks)) kk) (hck : ∀ (e : Bool) (w : World), (Instr.checkKey e 10000 kt k).run P w = .ok () w) (he : ∀ x ∈ ks, ∀ w, (Op.equal kt k x).run P w = .ok (decide (x = k)) w) (hsb : Instr.sameBits 10000 k k = true)
    (h : R undef (kk (.obj b (setO (if k ∈ ks then ks else ks ++ [k]))))) : NV P w0 r fr H o R := by
  refine ⟨fun c hc => (by rw [ho] at hc; cases hc), fun w hw => ?_⟩
  subst hy
  obtain ⟨_, hb, _⟩ := hw.holds _ hat.mem
  obtain ⟨j, h1, h2⟩ := run_findKey (P := P) (w := w) (T.hdesc _ _ hdk) (fun x hx => he x hx w)
  have hg : (getObj b).run P w = .ok (setO ks) w := by simp [getObj, Sem.run, hb, setO]
  have hs : ∀ o', (setObj b o').run P w = .ok () (w.putObj b o') := fun o' => by simp [setObj, Sem.run, hb, World.putObj, setO]
  simp only [execOp, ho, Instr.mapUpdate, hx, hz, Sem.run_bind, run_underlying (T.hdesc _ _ hd), Result.andThen_ok, hg, setO, Sem.run_pure, hck, h1]
  by_cases hm : ev fr y ∈ ks
  · have h3 := h2 hm
    have hjl : j < ks.length := (List.getElem?_eq_some_iff.1 h3).1
    have hold : (((ks.mapIdx fun i k => ({ key := k, val := .bool true, born := i } : MapEntry)).toArray[j]?).map (·.key)).getD (ev fr y) = ev fr y := by
      simp [h3]
    have hsame : ((ks.mapIdx fun i k => ({ key := k, val := .bool true, born := i } : MapEntry)).toArray.modify j fun e => { e with key := ev fr y, val := .bool true }) = (ks.mapIdx fun i k => ({ key := k, val := .bool true, born := i } : MapEntry)).toArray := by
      apply Array.ext_getElem?
      intro n
      rw [Array.getElem?_modify]
      split
      · rename_i hjn
        subst hjn
        simp [h3]
      · rfl
    have hst : ∀ w : World, (Instr.keyThatStays (ev fr y) (ev fr y)).run P w = .ok (ev fr y) w := fun w => by simp [Instr.keyThatStays, hsb]
    simp only [hm, if_true, hold, hst, Result.andThen_ok, Sem.run_bind, hsame, hs]
    rw [if_pos hm] at h
    exact ⟨_, Sat.putObj hw hat (o' := setO ks) (fun _ _ _ h => by cases h), h⟩
  · simp only [hm, if_false, hs]
    rw [if_neg hm] at h
    have e : ((ks.mapIdx fun i k => ({ key := k, val := .bool true, born := i } : MapEntry)).toArray.push { key := ev fr y, val := .bool true, born := ks.length }) = ((ks ++ [ev fr y]).mapIdx fun i k => ({ key := k, val := .bool true, born := i } : MapEntry)).toArray := by
      apply Array.ext'
      simp
    rw [e]
    have h' := Sat.putObj hw hat (o' := setO (ks ++ [ev fr y])) (fun _ _ _ h => by cases h)
    refine ⟨_, ?_, h⟩
    simpa [setO] using h'
end
end Go.Sep
namespace Go.Sep
open Go Go.RowKit
theorem run_forIn_unit {P : Program} {w : World} {α : Type} (f : α → PUnit → Sem (ForInStep PUnit)) : ∀ (l : List α), (∀ a ∈ l, (f a ⟨⟩).run P w = .ok (.yield ⟨⟩) w) → (forIn l ⟨⟩ f : Sem PUnit).run P w = .ok ⟨⟩ w
  | [], _ => by simp
  | a :: l, h => by
    rw [List.forIn_cons, Sem.run_bind, h a (by simp)]
    simp only [Result.andThen_ok]
    exact run_forIn_unit f l (fun b hb => h b (by simp [hb]))
/-- A struct of plain fields may be a key. -/
theorem run_checkKey_struct {P : Program} (T : Tab P) {w : World} {kt : TypeId} {fs : Array Field} {cs : Array Value} (hd : T.desc kt = some (.struct fs))
    (hf : ∀ f ∈ fs.toList, ∃ v d, partv T f.type cs.toList f.offset = some v ∧ T.desc f.type = some d ∧ (d = .bool ∨ d = .string ∨ ∃ k, d = .int k)) (e : Bool) (n : Nat) : (Instr.checkKey e (n + 2) kt (.agg cs)).run P w = .ok () w := by
  unfold Instr.checkKey
  simp only [Sem.run_bind, run_underlying (T.hdesc _ _ hd), Result.andThen_ok]
  rw [← Array.forIn_toList]
  rw [run_forIn_unit _ fs.toList fun f hm => ?_]
  · rfl
  obtain ⟨v, d, h1, h2, h3⟩ := hf f hm
  by_cases hn : f.name = "_"
  · simp [hn]
  · have hk : (Instr.checkKey e (n + 1) f.type v).run P w = .ok () w := by
      unfold Instr.checkKey
      simp only [Sem.run_bind, run_underlying (T.hdesc _ _ h2), Result.andThen_ok]
      rcases h3 with rfl | rfl | ⟨k, rfl⟩ <;> rfl
    simp [hn, run_part T h1, hk]
section
variable {P : Program} {w0 : World} {N : Nat} {r : Option Nat} {fr : Fr} {ds : List Deferred} {H : List Chunk} {ops : Array Oper} {l : List Oper} {o : Oper} {K : Cont} {dd : Option Tmp}
/-- A shorter slice of a row of the call's own is the call's own. -/
theorem Sat.short {w : World} {a : Option Addr} {n c e sz m : Nat} {xs : List Value} {k : Chunk → List Chunk} (hw : Sat w0 w H) (hat : At H (.row a n c e sz xs) k) (hm : m ≤ n) : Sat w0 w (k (.row a m c e sz (xs.take (m * sz)))) := by
  have ho := hw.holds _ hat.mem
  have hms : m * sz ≤ n * sz := Nat.mul_le_mul_right sz hm
  refine Sat.turn hw hat (.refl _ _) (fun _ _ _ => rfl) ?_ (fun b hb => .inl hb)
  refine ⟨by rw [List.length_take, ho.1]; omega, ?_⟩
  rcases ho.2 with ⟨h1, h2⟩ | ⟨g, cap, cur, h1, hB, hg, hn, hc, hcs, htake⟩
  · cases h1; exact .inl ⟨by rw [show m = 0 by omega], by omega⟩
  · cases h1
    refine .inr ⟨g, c, cur, rfl, hB, hg, by omega, hc, hcs, ?_⟩
    rw [← htake, List.take_take, Nat.min_eq_left hms]
theorem RL.short {a : Option Addr} {n c e sz : Nat} {xs : List Value} {k : Chunk → List Chunk} (m : Nat) (h : RL P w0 N r ops l fr ds (k (.row a m c e sz (xs.take (m * sz)))) K) (hat : At H (.row a n c e sz xs) k := by repeat first | exact At.head _ _ | apply At.tail) (hm : m ≤ n := by omega) : RL P w0 N r ops l fr ds H K :=
  fun tmps w idx hi hr hs => h tmps w idx hi hr (hs.short hat hm)
theorem flat_take {α : Type} {enc : α → List Value} {sz : Nat} (hE : ∀ r, (enc r).length = sz) : ∀ (rs : List α) (m : Nat), (rs.flatMap enc).take (m * sz) = (rs.take m).flatMap enc
  | [], m => by simp
  | r :: rs, 0 => by simp
  | r :: rs, m + 1 => by
    rw [List.flatMap_cons, List.take_succ_cons, List.flatMap_cons, List.take_append, hE, List.take_of_length_le (by rw [hE, Nat.succ_mul]; omega), show (m + 1) * sz - sz = m * sz by rw [Nat.succ_mul]; omega, flat_take hE rs m]
end
end Go.Sep
namespace Go.Sep
open Go Go.RowKit
section
variable {P : Program} {w0 : World} {fr : Fr} {H : List Chunk}
theorem run_equal_agg (T : Tab P) (L : Pl P) {t : TypeId} {xs ys : Array Value} {b : Bool} (h : eqd T L 20 t (.agg xs) (.agg ys) = some b) (w : World) : (Op.equal t (.agg xs) (.agg ys)).run P w = .ok b w := by
  have h1 := run_eqd T L 20 t _ _ b w Op.maxDepth (by simp [Op.maxDepth]) h
  simp only [Op.equal, h1]
theorem QV.neqd (T : Tab P) (L : Pl P) {o : Oper} {t yt : TypeId} {x y : Operand} {xs ys : Array Value} {b : Bool} (ho : o.op = .binOp .neq t x y yt) (hx : ev fr x = .agg xs) (hy : ev fr y = .agg ys)
    (hg : P.eqGuardType P.depth t = false) (h : Sep.eqd T L 20 t (.agg xs) (.agg ys) = some b) : QV P w0 fr H o (.bool (!b)) := by
  intro w _
  have h1 := run_equal_agg T L h w
  have h2 : (eqGuard .neq t x y (.agg xs) (.agg ys)).run P w = .ok () w := run_eqGuard_agg (P := P) (w := w) .neq t x y xs ys hg
  have h3 : (binOp .neq t (.agg xs) (.agg ys)).run P w = .ok (.bool (!b)) w := by
    show ((do Pure.pure (Value.bool (!(← Op.equal t (.agg xs) (.agg ys))))) : Sem Value).run P w = _
    simp only [Sem.run_bind, h1, Result.andThen_ok, Sem.run_pure]
  simp [execOp, ho, hx, hy, h2, h3]
end
end Go.Sep
