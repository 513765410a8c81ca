import Derived.Test.YtjemdjjmpgjieaaS10
import Derived.RangeFuncLeaves
import Derived.RangeFuncRecord
set_option linter.unusedVariables false
set_option linter.unusedSimpArgs false
/- Ranges over functions, calls of yield, functions that leave a mark, conditions whose parts are values, short steps. -/
namespace Go.Sep
open Go Go.RowKit

section
variable {P : Program} {w0 : World} {N : Nat} {r : Option Nat} {fr : Fr} {ds : List Deferred} {H : List Chunk}

/-! ### objects that are no cells -/
theorem Sat.putObj {w : World} {b : Nat} {o o' : Obj} {k : Chunk → List Chunk} (hw : Sat w0 w H) (hat : At H (.obj b o) k) (ho' : ∀ cs t f, o' ≠ .cells cs t f) : Sat w0 (w.putObj b o') (k (.obj b o')) := by
  obtain ⟨hB, hb, _⟩ := hw.holds _ hat.mem
  have hlt := (Array.getElem?_eq_some_iff.1 hb).1
  exact Sat.turn hw hat ⟨rfl, rfl, rfl, by simp [World.putObj], fun k hk => World.putObj_heap_other (by omega)⟩ (fun k hk hne => World.putObj_heap_other (fun e => hne (by simp [Chunk.block, e]))) ⟨hB, World.putObj_heap_same hlt, fun cs t => ho' cs t _⟩ (fun b' hb' => .inl hb')
theorem Sat.allocObj {w : World} (h : Sat w0 w H) (o : Obj) (ho : ∀ cs t f, o ≠ .cells cs t f) : Sat w0 (w.alloc o) (.obj w.heap.size o :: H) :=
  Sat.new h (.alloc (.refl _ _) h.below.size _) (fun b hb => Below.heap_alloc _ _ _ hb) ⟨h.below.size, heap_alloc_new _ _, fun cs t => ho cs t _⟩ (fun b hb => by cases hb; exact Nat.le_refl _)

/-! ### ranges over functions -/
/-- A range's record. -/
abbrev loopO (fn : FuncId) (tmps : Array Value) (ps : Array Tmp) (assign body : Code) (D : Nat) (st : LoopState) (pe : Option Code) : Obj :=
  .loop { state := st, pending := pe, fn := fn, tmps := tmps, params := ps, assign := assign, body := body, defers := D }
/-- What a call of yield does. -/
def Yld (P : Program) (w0 : World) (r : Option Nat) (L : Nat) (as : List Value) (H : List Chunk) (R : Value → List Chunk → Prop) : Prop :=
  ∀ w, Sat w0 w H → uponV P w0 r R ((Instr.yield L as.toArray).run P w)
theorem Yld.mono {L : Nat} {as : List Value} {R R' : Value → List Chunk → Prop} (h : Yld P w0 r L as H R) (hr : ∀ v H', R v H' → R' v H') : Yld P w0 r L as H R' :=
  fun w hw => (h w hw).mono (hr := hr)
theorem NV.yield {o : Oper} {cl : Call} {f : Operand} {L : Nat} {as : List Value} {R : Value → List Chunk → Prop} (h : Yld P w0 r L as H R) (ho : o.op = .call cl := by rfl) (hf : cl.callee = .value f := by rfl)
    (hv : ev fr f = .func (.yield L) #[] #[] := by rfl) (ha : evs fr cl.args.toList = as := by rfl) : NV P w0 r fr H o R := by
  subst ha
  refine ⟨fun c hc => (by rw [ho] at hc; cases hc), fun w hw => ?_⟩
  have e1 : #[] ++ cl.args.map (ev fr) = (evs fr cl.args.toList).toArray := by
    apply Array.ext'
    simp [← ev_map]
  simp only [execOp, ho, resolve, hf, hv, Deferred.ofValue, Sem.run_bind, Sem.run_pure, Result.andThen_ok, invoke, e1]
  exact h w hw

def setps (fr : Fr) : List Tmp → List Value → Fr
  | t :: ts, v :: vs => setps (upd fr t v) ts vs
  | _, _ => fr
theorem rep_setps {Nr : Nat} : ∀ (ps : List Tmp) (vs : List Value) (fr : Fr) (tmps : Array Value), ps.all (fun t => Nat.blt t Nr) = true → Rep Nr fr tmps → Rep Nr (setps fr ps vs) ((ps.zip vs).foldl (fun t (p : Tmp × Value) => t.setIfInBounds p.1 p.2) tmps)
  | [], _, fr, tmps, _, h => by cases ‹List Value› <;> exact h
  | t :: ts, [], fr, tmps, _, h => h
  | t :: ts, v :: vs, fr, tmps, hp, h => by
    simp only [List.all_cons, Bool.and_eq_true] at hp
    simp only [List.zip_cons_cons, List.foldl_cons, setps]
    exact rep_setps ts vs _ _ hp.2 (Rep.put (a := ⟨tmps, []⟩) (d := some t) h hp.1 v)

/-- How a round may end. -/
def rndQ (fn : FuncId) (tmps : Array Value) (ps : Array Tmp) (assign body : Code) (D L : Nat) (R : Value → List Chunk → Prop) : Post
  | .normal, _, _, H => ∃ k, At H (.obj L (loopO fn tmps ps assign body D .busy none)) k ∧ R (.bool true) (k (.obj L (loopO fn tmps ps assign body D .ready none)))
  | .ret, _, _, H => ∃ k, At H (.obj L (loopO fn tmps ps assign body D .busy none)) k ∧ R (.bool false) (k (.obj L (loopO fn tmps ps assign body D .done (some .ret))))
  | .exit id, _, _, H => ∃ k, At H (.obj L (loopO fn tmps ps assign body D .busy none)) k ∧ R (.bool false) (k (.obj L (loopO fn tmps ps assign body D .done (some (.exit id)))))
  | _, _, _, _ => False

theorem Yld.of {L : Nat} {as : List Value} {R : Value → List Chunk → Prop} {k : Chunk → List Chunk} {fn : FuncId} {tmps : Array Value} {ps : Array Tmp} {assign body : Code} {D Nr : Nat} {frr : Fr}
    (hat : At H (.obj L (loopO fn tmps ps assign body D .ready none)) k) (hsz : as.length = ps.size) (hrep : Rep Nr frr tmps) (hps : ps.toList.all (fun t => Nat.blt t Nr) = true)
    (h : SW P w0 Nr (some L) assign (setps frr ps.toList as) [] H (thenQ (fun fr' ds' H' => ∃ k', At H' (.obj L (loopO fn tmps ps assign body D .ready none)) k' ∧
      SW P w0 Nr (some L) body fr' ds' (k' (.obj L (loopO fn tmps ps assign body D .busy none))) (rndQ fn tmps ps assign body D L R)) (fun _ _ _ _ => False))) : Yld P w0 none L as H R := by
  intro w hw
  have hl := (hw.holds _ hat.mem).2.1
  rw [run_yield hl (by simpa using hsz)]
  simp only [uponV]
  have key := h ((ps.toList.zip as).foldl (fun t (p : Tmp × Value) => t.setIfInBounds p.1 p.2) tmps) w (rep_setps ps.toList as frr tmps hps hrep) hw
  have ez : (ps.zip as.toArray).foldl (fun tmps (x : Tmp × Value) => tmps.setIfInBounds x.1 x.2) tmps = (ps.toList.zip as).foldl (fun t (p : Tmp × Value) => t.setIfInBounds p.1 p.2) tmps := by
    rw [← Array.foldl_toList]
    congr 1
    simp
  refine roundIn_of_wpIn (F := Fw none) trivial ?_
  show assign.wpIn (Fw (some L)) 0 P _ _ _
  rw [ez]
  refine wpIn_mono key ?_
  rintro e a w1 ⟨fr', H', hr1, hs1, hq⟩
  cases e with
  | normal =>
    obtain ⟨k', hat', hb⟩ := hq
    have hl1 := (hs1.holds _ hat'.mem).2.1
    refine ⟨_, run_beginRound hl1 rfl, ?_⟩
    have hs2 := Sat.putObj hs1 hat' (o' := loopO fn tmps ps assign body D .busy none) (fun _ _ _ h => by cases h)
    refine wpIn_mono (hb _ _ hr1 hs2) ?_
    rintro e a w2 ⟨fr2, H2, hr2, hs3, hq2⟩
    cases e with
    | normal =>
      obtain ⟨k2, hat2, hR⟩ := hq2
      exact ⟨_, _, run_endRound none (hs3.holds _ hat2.mem).2.1, _, _, rfl, Sat.putObj hs3 hat2 (fun _ _ _ h => by cases h), hR⟩
    | ret =>
      obtain ⟨k2, hat2, hR⟩ := hq2
      exact ⟨_, _, run_endRound (some .ret) (hs3.holds _ hat2.mem).2.1, _, _, rfl, Sat.putObj hs3 hat2 (fun _ _ _ h => by cases h), hR⟩
    | exit id =>
      obtain ⟨k2, hat2, hR⟩ := hq2
      exact ⟨_, _, run_endRound (some (.exit id)) (hs3.holds _ hat2.mem).2.1, _, _, rfl, Sat.putObj hs3 hat2 (fun _ _ _ h => by cases h), hR⟩
    | _ => exact hq2.elim
  | _ => exact hq.elim

/-- What is behind a range over a function. -/
def behindQ (P : Program) (w0 : World) (N : Nat) (fn : FuncId) (tmps : Array Value) (ps : Array Tmp) (assign body : Code) (D L : Nat) (fr : Fr) (ds : List Deferred) (Q : Post) (_ : Value) (H : List Chunk) : Prop :=
  ∃ k st pe, At H (.obj L (loopO fn tmps ps assign body D st pe)) k ∧ st ≠ .busy ∧
    match pe with
    | none => Q .normal fr ({ target := .collected D, args := #[] } :: ds) (k (.obj L (loopO fn tmps ps assign body D .exhausted none)))
    | some c => SW P w0 N none c fr ({ target := .collected D, args := #[] } :: ds) (k (.obj L (loopO fn tmps ps assign body D .exhausted (some c)))) Q
theorem SW.rangeFunc {Q : Post} {g : Operand} {ps : Array Tmp} {assign body : Code} {f : FuncId} {cap : Array Value} (hg : ev fr g = .func (.func f) #[] cap) (hfun : Fun P f)
    (h : ∀ fn tmps D L, Rep N fr tmps → SC P w0 f (#[.func (.yield L) #[] #[]] ++ cap) (.obj L (loopO fn tmps ps assign body D .ready none) :: .obj D (.deferred (some [])) :: H)
      (behindQ P w0 N fn tmps ps assign body D L fr ds Q)) :
    SW P w0 N none (.rangeFunc g ps assign body) fr ds H Q := by
  intro tmps w hr hs
  refine wpIn_rangeFunc ?_
  intro fn _
  have hs1 := (hs.allocObj (.deferred (some [])) (fun _ _ _ h => by cases h)).allocObj (loopO fn tmps ps assign body w.heap.size .ready none) (fun _ _ _ h => by cases h)
  have hsz : (w.alloc (.deferred (some []))).heap.size = w.heap.size + 1 := World.size_alloc _ _
  rw [hsz] at hs1
  have hev : (Act.mk tmps ds).eval g = .func (.func f) #[] cap := by rw [Rep.eval (a := ⟨tmps, ds⟩) hr]; exact hg
  let w1 : World := (w.alloc (.deferred (some []))).alloc (loopO fn tmps ps assign body w.heap.size .ready none)
  refine ⟨w.heap.size + 1, [{ target := .collected w.heap.size, args := #[] }], w1, { target := .fn (.func f) cap, args := #[.func (.yield (w.heap.size + 1)) #[] #[]] }, w1, f,
    #[.func (.yield (w.heap.size + 1)) #[] #[]] ++ cap, w1, run_enterLoop_outer _ _ _ _ _, ?_, fun _ _ => trivial, ?_, fun hn => by simp [Fw] at hn, ?_⟩
  · simp only [resolve, rangeCall, hev, Deferred.ofValue, Sem.run_bind, Sem.run_pure, Result.andThen_ok]
    simp [Act.eval]
  · exact hfun _ _
  · have hc := h fn tmps w.heap.size (w.heap.size + 1) hr _ hs1
    refine CallsIn.mono (F := Fw none) (n := 0) (callsIn_wide.2 hc) ?_
    rintro e w' ⟨v, H', rfl, hs2, k, st, pe, hat, hst, hq⟩
    have hl := (hs2.holds _ hat.mem).2.1
    refine ⟨pe, _, run_endLoop hl hst, ?_⟩
    have hs3 := Sat.putObj hs2 hat (o' := loopO fn tmps ps assign body w.heap.size .exhausted pe) (fun _ _ _ h => by cases h)
    cases pe with
    | none => exact ⟨fr, _, hr, hs3, hq⟩
    | some c => exact hq _ _ hr hs3

/-- How a round may end, the record told by its states. -/
def rndR (LO : LoopState → Option Code → Chunk) (R : Value → List Chunk → Prop) : Post
  | .normal, _, _, H => ∃ k, At H (LO .busy none) k ∧ R (.bool true) (k (LO .ready none))
  | .ret, _, _, H => ∃ k, At H (LO .busy none) k ∧ R (.bool false) (k (LO .done (some .ret)))
  | .exit id, _, _, H => ∃ k, At H (LO .busy none) k ∧ R (.bool false) (k (LO .done (some (.exit id))))
  | _, _, _, _ => False
def behindR (P : Program) (w0 : World) (N : Nat) (LO : LoopState → Option Code → Chunk) (D : Nat) (fr : Fr) (ds : List Deferred) (Q : Post) (_ : Value) (H : List Chunk) : Prop :=
  ∃ k st pe, At H (LO st pe) k ∧ st ≠ .busy ∧
    match pe with
    | none => Q .normal fr ({ target := .collected D, args := #[] } :: ds) (k (LO .exhausted none))
    | some c => SW P w0 N none c fr ({ target := .collected D, args := #[] } :: ds) (k (LO .exhausted (some c))) Q
/-- A range over a function: what is asked of the function that is ranged over, the record's inside out of sight. -/
theorem SW.rangeF {Q : Post} {g : Operand} {ps : Array Tmp} {assign body : Code} {f : FuncId} {cap : Array Value}
    (h : ∀ (L D : Nat) (LO : LoopState → Option Code → Chunk),
      (∀ {as : List Value} {R : Value → List Chunk → Prop} {HJ : List Chunk} {k : Chunk → List Chunk}, At HJ (LO .ready none) k → as.length = ps.size →
        SW P w0 N (some L) assign (setps fr ps.toList as) [] HJ (thenQ (fun fr' ds' H' => ∃ k', At H' (LO .ready none) k' ∧ SW P w0 N (some L) body fr' ds' (k' (LO .busy none)) (rndR LO R)) (fun _ _ _ _ => False)) →
        Yld P w0 none L as HJ R) →
      SC P w0 f (#[.func (.yield L) #[] #[]] ++ cap) (LO .ready none :: .obj D (.deferred (some [])) :: H) (behindR P w0 N LO D fr ds Q))
    (hg : ev fr g = .func (.func f) #[] cap := by rfl) (hfun : Fun P f := by assumption) (hps : ps.toList.all (fun t => Nat.blt t N) = true := by rfl) :
    SW P w0 N none (.rangeFunc g ps assign body) fr ds H Q := by
  refine SW.rangeFunc hg hfun (fun fn tmps D L hrep => ?_)
  refine (h L D (fun st pe => .obj L (loopO fn tmps ps assign body D st pe)) (fun hat hsz hw => Yld.of hat hsz hrep hps ?_)).mono (fun v H' hb => hb)
  refine SW.mono hw ?_
  intro e fr' ds' H' hq
  cases e with
  | normal =>
    obtain ⟨k', h1, h2⟩ := hq
    refine ⟨k', h1, SW.mono h2 ?_⟩
    intro e fr2 ds2 H2 hq2
    cases e <;> exact hq2
  | _ => exact hq

/-- A function's end, marks taken in. -/
inductive Lv (P : Program) (w0 : World) (fr : Fr) (rs : List ResultVar) (R : Value → List Chunk → Prop) : List Deferred → List Chunk → Prop
  | nil {H H' : List Chunk} {vs : List Value} (hv : RVs w0 P fr H rs vs) (hH : ∀ w, Sat w0 w H → Sat w0 w H') (h : R (resV vs) H') : Lv P w0 fr rs R [] H
  | mark {D : Nat} {ds : List Deferred} {H : List Chunk} {k : Chunk → List Chunk} (hat : At H (.obj D (.deferred (some []))) k) (h : Lv P w0 fr rs R ds (k (.obj D (.deferred none)))) : Lv P w0 fr rs R ({ target := .collected D, args := #[] } :: ds) H
  | sat {ds : List Deferred} {H : List Chunk} (h : (∃ w, Sat w0 w H) → Lv P w0 fr rs R ds H) : Lv P w0 fr rs R ds H
def retM (P : Program) (w0 : World) (rs : List ResultVar) (R : Value → List Chunk → Prop) : Post
  | .normal, fr, ds, H => Lv P w0 fr rs R ds H
  | .ret, fr, ds, H => Lv P w0 fr rs R ds H
  | _, _, _, _ => False
theorem Lv.leaves {fn : Func} {tmps : Array Value} {R : Value → List Chunk → Prop} (hr : Rep N fr tmps) : ∀ {ds : List Deferred} {H : List Chunk}, Lv P w0 fr fn.results.toList R ds H → ∀ w, Sat w0 w H →
    LeavesInM (Fw none) 0 P fn tmps (fun e w' => ∃ v H', e = .returned v ∧ Sat w0 w' H' ∧ R v H') ds .returning w := by
  intro ds H h
  induction h with
  | nil hv hH h => exact fun w hs => ⟨_, RVs.run hv hr hs, _, _, rfl, hH _ hs, h⟩
  | sat _ ih => exact fun w hs => ih ⟨w, hs⟩ w hs
  | mark hat _ ih =>
    intro w hs
    have hl := (hs.holds _ hat.mem).2.1
    exact ⟨by simp, .inl ⟨_, _, rfl, run_takeDeferred hl, ih _ (Sat.putObj hs hat (fun _ _ _ h => by cases h))⟩⟩
theorem SC.enterM {f : FuncId} {fn : Func} {c : Code} {args : Array Value} {R : Value → List Chunk → Prop} (hf : P.funcs[f]? = some fn) (hb : fn.body = some c) (hn : args.size ≤ fn.ntmps)
    (h : SW P w0 fn.ntmps none c (fr0 args) [] H (retM P w0 fn.results.toList R)) : SC P w0 f args H R := by
  intro w hw
  have hrep : Rep fn.ntmps (fr0 args) (args ++ Array.replicate (fn.ntmps - args.size) undef) := by
    refine ⟨by simp; omega, fun i => ?_⟩
    simp only [fr0, Array.getD_eq_getD_getElem?, List.getD_eq_getElem?_getD, Array.getElem?_toList, Array.getElem?_append]
    split
    · rfl
    · rw [Array.getElem?_eq_none (xs := args) (by omega)]
      rw [Array.getElem?_replicate]
      split <;> rfl
  have h2 := h _ w hrep hw
  refine callsIn_wide.1 (callsIn_of_wp_marks (F := Fw none) hf hb trivial (wpIn_mono h2 ?_))
  rintro e a w' ⟨fr', H', h1, h2, h3⟩
  cases e with
  | normal => exact Lv.leaves h1 h3 w' h2
  | ret => exact Lv.leaves h1 h3 w' h2
  | _ => exact h3.elim

/-! ### conditions whose parts are values -/
def skipG (ops : Array Oper) (d : Nat) (b : Bool) : List Nat → List Oper → Bool
  | _, [] => true
  | S, o :: l => match gslot ops o with
    | some (d', b') => ((Nat.beq d' d && (b' == b)) || S.any (Nat.beq d')) && (match o.dst with | some x => !(Nat.beq x d) && skipG ops d b (x :: S) l | none => skipG ops d b S l)
    | none => false
def dstsL : List Oper → List Nat
  | [] => []
  | o :: l => match o.dst with | some x => x :: dstsL l | none => dstsL l
def und (W : List Nat) (fr : Fr) : Fr := fun s => cond (W.any (Nat.beq s)) undef (fr s)
def jn (W : List Nat) (t : Bool) (f g : Fr) : Fr := fun s => cond (W.any (Nat.beq s)) (cond t (f s) undef) (g s)
theorem RL.skips {ops : Array Oper} {l2 : List Oper} {K : Cont} {d : Nat} {b t : Bool} (hne : (t == b) = false) : ∀ (l1 : List Oper) (S : List Nat) (fr : Fr), fr d = .bool t → (∀ s, S.any (Nat.beq s) = true → fr s = undef) → skipG ops d b S l1 = true →
    (dstsL l1).all (fun x => Nat.blt x N) = true → RL P w0 N r ops l2 (und (dstsL l1) fr) ds H K → RL P w0 N r ops (l1 ++ l2) fr ds H K := by
  intro l1
  induction l1 with
  | nil => intro S fr hd hS hs hN h; exact h
  | cons o l ih =>
    intro S fr hd hS hs hN h
    unfold skipG at hs
    cases hg : gslot ops o with
    | none => rw [hg] at hs; cases hs
    | some p =>
      obtain ⟨d', b'⟩ := p
      rw [hg] at hs
      simp only [Bool.and_eq_true, Bool.or_eq_true] at hs
      obtain ⟨h1, h2⟩ := hs
      have hnot : isNot (fr d') b' = true := by
        rcases h1 with ⟨h1, h3⟩ | h1
        · rw [Nat.eq_of_beq_eq_true h1, hd, (beq_iff_eq.1 h3)]; simp [isNot, hne]
        · rw [hS d' h1]; rfl
      unfold dstsL at hN h
      cases hdst : o.dst with
      | none =>
        simp only [hdst] at h2 hN h
        refine RL.guard_no hg hnot (by rw [hdst]; rfl) ?_
        rw [hdst]
        exact ih S fr hd hS h2 hN h
      | some x =>
        simp only [hdst, Bool.and_eq_true, Bool.not_eq_true', List.all_cons] at h2 hN h
        refine RL.guard_no hg hnot (by rw [hdst]; exact hN.1) ?_
        rw [hdst]
        refine ih (x :: S) (upd fr x undef) ?_ ?_ h2.2 hN.2 ?_
        · unfold upd
          have : Nat.beq d x = false := by
            cases hb : Nat.beq d x with
            | false => rfl
            | true => have h5 := Nat.eq_of_beq_eq_true hb; subst h5; simp at h2
          rw [this]; exact hd
        · intro s hs'
          simp only [List.any_cons, Bool.or_eq_true] at hs'
          unfold upd
          cases hb : Nat.beq s x with
          | true => rfl
          | false => rcases hs' with hs' | hs'
                     · rw [hb] at hs'; cases hs'
                     · exact hS s hs'
        · have e : und (dstsL l) (upd fr x undef) = und (x :: dstsL l) fr := by
            funext s
            simp only [und, upd, List.any_cons]
            cases Nat.beq s x <;> cases (dstsL l).any (Nat.beq s) <;> rfl
          rw [e]; exact h
/-- Operations behind one guard, walked where it lets: what they yield is joined with nothing. -/
theorem RL.join {ops : Array Oper} {l : List Oper} {K : Cont} {fr1 : Fr} {t : Bool} (n d : Nat) (b : Bool) (W : List Nat) (h1 : t = b → RL P w0 N r ops (l.drop n) fr1 ds H K → RL P w0 N r ops l fr ds H K) (hm : Mx W fr fr1) (hk : RL P w0 N r ops (l.drop n) (jn W (t == b) fr1 fr) ds H K)
    (hd : fr d = .bool t := by rfl) (hs : skipG ops d b [] (l.take n) = true := by rfl) (hW : dstsL (l.take n) = W := by rfl) (hN : W.all (fun x => Nat.blt x N) = true := by rfl) : RL P w0 N r ops l fr ds H K := by
  subst hW
  by_cases htb : t = b
  · refine h1 htb ?_
    have e : jn (dstsL (l.take n)) (t == b) fr1 fr = fr1 := by
      funext s
      unfold jn
      rw [show (t == b) = true from beq_iff_eq.2 htb]
      cases hb : (dstsL (l.take n)).any (Nat.beq s) with
      | true => rfl
      | false => exact (hm s hb).symm
    rw [e] at hk
    exact hk
  · have hne : (t == b) = false := by simpa using htb
    rw [← List.take_append_drop n l]
    refine RL.skips hne (l.take n) [] fr hd (fun s hs => by simp at hs) hs hN ?_
    have e : jn (dstsL (l.take n)) (t == b) fr1 fr = und (dstsL (l.take n)) fr := by
      funext s; unfold jn und; rw [hne]; rfl
    rw [e] at hk
    exact hk

/-! ### short steps -/
theorem RL.p (T : Tab P) {ops : Array Oper} {l : List Oper} {o : Oper} {K : Cont} {dd : Option Tmp} {v : Value} (h : RL P w0 N r ops l (putF fr dd v) ds H K)
    (hg : Gd ops fr o := by first | exact Gd.none rfl | exact Gd.yes rfl rfl | exact Gd.yes rfl (congrArg Value.bool (by assumption))) (hd : o.dst = dd := by rfl) (hN : dstOK N dd = true := by rfl)
    (hv : pev T fr o.op = some v := by conv => lhs; whnf; arg 1; whnf) : RL P w0 N r ops (o :: l) fr ds H K := RL.step hg hd hN (NV.pure T hv h)
/-- 'a && b'. -/
theorem RL.and {ops : Array Oper} {l : List Oper} {o : Oper} {K : Cont} {dd : Option Tmp} {c a e : Operand} {t B : Bool} (h : RL P w0 N r ops l (putF fr dd (.bool (t && B))) ds H K)
    (ho : o.op = .pick c a e := by rfl) (hc : ev fr c = .bool t := by rfl) (ha : ev fr a = cond (t == true) (.bool B) undef := by rfl) (he : ev fr e = .bool false := by rfl)
    (hg : Gd ops fr o := by first | exact Gd.none rfl | exact Gd.yes rfl rfl | exact Gd.yes rfl (congrArg Value.bool (by assumption))) (hd : o.dst = dd := by rfl) (hN : dstOK N dd = true := by rfl) : RL P w0 N r ops (o :: l) fr ds H K := by
  refine RL.step hg hd hN (QV.nv _ _ _ (fun c hc => by rw [ho] at hc; cases hc) (v := .bool (t && B)) (fun w _ => ?_) h)
  cases t <;> simp [execOp, ho, hc, ha, he, asBool] at *
/-- 'a || b'. -/
theorem RL.or {ops : Array Oper} {l : List Oper} {o : Oper} {K : Cont} {dd : Option Tmp} {c a e : Operand} {t B : Bool} (h : RL P w0 N r ops l (putF fr dd (.bool (t || B))) ds H K)
    (ho : o.op = .pick c a e := by rfl) (hc : ev fr c = .bool t := by rfl) (ha : ev fr a = .bool true := by rfl) (he : ev fr e = cond (t == false) (.bool B) undef := by rfl)
    (hg : Gd ops fr o := by first | exact Gd.none rfl | exact Gd.yes rfl rfl | exact Gd.yes rfl (congrArg Value.bool (by assumption))) (hd : o.dst = dd := by rfl) (hN : dstOK N dd = true := by rfl) : RL P w0 N r ops (o :: l) fr ds H K := by
  refine RL.step hg hd hN (QV.nv _ _ _ (fun c hc => by rw [ho] at hc; cases hc) (v := .bool (t || B)) (fun w _ => ?_) h)
  cases t <;> simp [execOp, ho, hc, ha, he, asBool] at *
end
end Go.Sep
