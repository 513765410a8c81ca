import Derived.Test.YtjemdjjmpgjieaaS26
import Derived.Defers
set_option linter.unusedVariables false
set_option linter.unusedSimpArgs false
/- Deferred calls of closures: put down by a 'defer', carried out behind the function's text. -/
namespace Go.Sep
open Go Go.RowKit

/-- What a deferred call does. -/
def SCD (P : Program) (w0 : World) (f : FuncId) (args : Array Value) (H : List Chunk) (R : Value → List Chunk → Prop) : Prop :=
  ∀ w, Sat w0 w H → CallsD P f args .returning w fun e u' w' => u' = .returning ∧ ∃ v H', e = .returned v ∧ Sat w0 w' H' ∧ R v H'
/-- What comes behind a function's text: the deferred calls, then the results. -/
def LvD (P : Program) (w0 : World) (rs : List ResultVar) (R : Value → List Chunk → Prop) (fr : Fr) : List Deferred → List Chunk → Prop
  | [], H => ∃ vs H', RVs w0 P fr H rs vs ∧ (∀ w, Sat w0 w H → Sat w0 w H') ∧ R (resV vs) H'
  | d :: ds, H => ∃ fv cap g args, d.target = .fn fv cap ∧ (∀ w, (invoke d.target d.args).run P w = .ok (.enter g args) w) ∧ SCD P w0 g args H (fun _ H' => LvD P w0 rs R fr ds H')
def retD (P : Program) (w0 : World) (rs : List ResultVar) (R : Value → List Chunk → Prop) : Post := fun e fr ds H =>
  match e with
  | .normal => LvD P w0 rs R fr ds H
  | .ret => LvD P w0 rs R fr ds H
  | _ => False

section
variable {P : Program} {w0 : World} {N : Nat} {r : Option Nat} {fr : Fr} {ds : List Deferred} {H : List Chunk}

theorem leaves_of {fn : Func} {tmps : Array Value} {R : Value → List Chunk → Prop} (hr : Rep N fr tmps) : ∀ (ds : List Deferred) (H : List Chunk) (w : World), Sat w0 w H → LvD P w0 fn.results.toList R fr ds H →
    Leaves P fn tmps (fun e w' => ∃ v H', e = .returned v ∧ Sat w0 w' H' ∧ R v H') ds .returning w
  | [], H, w, hs, ⟨vs, H', hv, hH, hR⟩ => ⟨_, RVs.run hv hr hs, _, H', rfl, hH w hs, hR⟩
  | d :: ds, H, w, hs, ⟨fv, cap, g, args, ht, hi, hc⟩ => by
    refine ⟨by simp, fv, cap, g, args, ht, hi w, (hc w hs).mono ?_⟩
    rintro e u' w' ⟨rfl, v, H', rfl, hs', hL⟩
    exact leaves_of hr ds H' w' hs' hL

theorem SC.enterD {f : FuncId} {fn : Func} {c : Code} {args : Array Value} {R : Value → List Chunk → Prop} (hf : P.funcs[f]? = some fn) (hb : fn.body = some c) (hn : args.size ≤ fn.ntmps)
    (h : SW P w0 fn.ntmps none c (fr0 args) [] H (retD P w0 fn.results.toList R)) : SC P w0 f args H R := by
  intro w hw
  have hrep : Rep fn.ntmps (fr0 args) (args ++ Array.replicate (fn.ntmps - args.size) undef) := by
    refine ⟨by simp; omega, fun i => ?_⟩
    simp only [fr0, Array.getD_eq_getD_getElem?, List.getD_eq_getElem?_getD, Array.getElem?_toList, Array.getElem?_append]
    split
    · rfl
    · rw [Array.getElem?_eq_none (xs := args) (by omega)]
      rw [Array.getElem?_replicate]
      split <;> rfl
  have h2 := h _ w hrep hw
  refine calls_of_wp_defers hf hb ?_
  refine wp_mono (wpIn_wide.1 h2) ?_
  rintro e a w' ⟨fr', H', h1, h2, h3⟩
  cases e with
  | normal => exact leaves_of h1 _ _ _ h2 h3
  | ret => exact leaves_of h1 _ _ _ h2 h3
  | _ => exact h3.elim

theorem SCD.enter {f : FuncId} {fn : Func} {c : Code} {args : Array Value} {R : Value → List Chunk → Prop} (hf : P.funcs[f]? = some fn) (hb : fn.body = some c) (hn : args.size ≤ fn.ntmps)
    (h : SW P w0 fn.ntmps none c (fr0 args) [] H (retQ P w0 fn.results.toList R)) : SCD P w0 f args H R := by
  intro w hw
  have hrep : Rep fn.ntmps (fr0 args) (args ++ Array.replicate (fn.ntmps - args.size) undef) := by
    refine ⟨by simp; omega, fun i => ?_⟩
    simp only [fr0, Array.getD_eq_getD_getElem?, List.getD_eq_getElem?_getD, Array.getElem?_toList, Array.getElem?_append]
    split
    · rfl
    · rw [Array.getElem?_eq_none (xs := args) (by omega)]
      rw [Array.getElem?_replicate]
      split <;> rfl
  have h2 := h _ w hrep hw
  refine (callsD_of_wp (R := fun e w' => ∃ v H', e = .returned v ∧ Sat w0 w' H' ∧ R v H') hf hb ?_).mono fun _ _ _ h => h
  refine wp_mono (wpIn_wide.1 h2) ?_
  rintro e a w' ⟨fr', H', h1, h2, h3⟩
  cases e with
  | normal => obtain ⟨hd, vs, H2, hv, hH, hR⟩ := h3; exact ⟨hd, _, RVs.run hv h1 h2, _, H2, rfl, hH _ h2, hR⟩
  | ret => obtain ⟨hd, vs, H2, hv, hH, hR⟩ := h3; exact ⟨hd, _, RVs.run hv h1 h2, _, H2, rfl, hH _ h2, hR⟩
  | _ => exact h3.elim

theorem SCD.mono {f : FuncId} {args : Array Value} {R R' : Value → List Chunk → Prop} (h : SCD P w0 f args H R) (hr : ∀ v H', R v H' → R' v H') : SCD P w0 f args H R' :=
  fun w hw => (h w hw).mono fun _ _ _ ⟨hu, v, H', e, s, q⟩ => ⟨hu, v, H', e, s, hr _ _ q⟩

/-- A closure's call is put down. -/
theorem RL.df {ops : Array Oper} {l : List Oper} {o : Oper} {K : Cont} {cl : Call} {f : Operand} {fn : Fn} {first cap : Array Value} {as : List Value}
    (h : RL P w0 N none ops l fr ({ target := .fn fn cap, args := (first.toList ++ as).toArray } :: ds) H K)
    (ho : o.op = .defer cl := by rfl) (hg : Gd ops fr o := by first | exact Gd.none rfl | exact Gd.yes rfl rfl) (hd : o.dst = none := by rfl)
    (hf : cl.callee = .value f := by rfl) (hv : ev fr f = .func fn first cap := by rfl) (ha : evs fr cl.args.toList = as := by rfl) : RL P w0 N none ops (o :: l) fr ds H K := by
  subst ha
  intro tmps w idx hi hr hs
  cases idx with
  | nil => simp at hi
  | cons i idx =>
    simp only [List.map_cons, List.cons.injEq] at hi
    simp only [wpOpsIn, hi.1]
    rw [if_pos (hg.wanted hr)]
    refine ⟨fun _ _ => trivial, ?_⟩
    have e1 : first ++ cl.args.map (ev fr) = (first.toList ++ evs fr cl.args.toList).toArray := by
      apply Array.ext'
      simp [← ev_map]
    have hrun : (Oper.semAt (Fw none).round (Act.eval ⟨tmps, ds⟩) o).run P w = .ok (.defer { target := .fn fn cap, args := (first.toList ++ evs fr cl.args.toList).toArray }) w := by
      rw [Rep.eval (a := ⟨tmps, ds⟩) hr]
      show (execOp (ev fr) o).run P w = _
      simp only [execOp, ho, resolve, hf, hv, Deferred.ofValue, Sem.run_bind, Sem.run_pure, Result.andThen_ok, e1]
    rw [hrun, Oper.uponIn_defer, hd]
    exact h _ w idx hi.2 hr hs

theorem retD.of {rs : List ResultVar} {R : Value → List Chunk → Prop} (h : retQ P w0 rs R .ret fr [] H) : retD P w0 rs R .ret fr [] H := h.2
theorem retD.ofn {rs : List ResultVar} {R : Value → List Chunk → Prop} (h : retQ P w0 rs R .normal fr [] H) : retD P w0 rs R .normal fr [] H := h.2
/-- One deferred closure, at a return. -/
theorem retD.one {rs : List ResultVar} {R R' : Value → List Chunk → Prop} {g : FuncId} {cap : Array Value} {args : Array Value} (hfun : Fun P g) (hc : (∃ w, Sat w0 w H) → SCD P w0 g cap H R') (h : ∀ v H', R' v H' → retQ P w0 rs R .ret fr [] H')
    (hargs : args ++ cap = cap := by rfl) : retD P w0 rs R .ret fr [{ target := .fn (.func g) cap, args := args }] H := by
  refine ⟨.func g, cap, g, cap, rfl, fun w => ?_, fun w hw => (hc ⟨w, hw⟩ w hw).mono ?_⟩
  · simp only [invoke]
    rw [hargs]
    exact hfun _ w
  · rintro e u' w' ⟨hu, v, H', he, hs, hq⟩
    exact ⟨hu, v, H', he, hs, (h v H' hq).2⟩
end
end Go.Sep
