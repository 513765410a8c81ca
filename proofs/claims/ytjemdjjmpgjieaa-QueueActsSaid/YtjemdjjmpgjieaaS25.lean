import Derived.Test.YtjemdjjmpgjieaaS15
set_option linter.unusedVariables false
set_option linter.unusedSimpArgs false
/- Short forms of rules whose premises find themselves. -/
namespace Go.Sep
open Go Go.RowKit
/-- A variable's place in what is held, found by search. -/
class AtV (H : List Chunk) (b : Nat) (tb : outParam TypeId) (cells : outParam (List Value)) (k : outParam (Chunk → List Chunk)) : Prop where
  h : At H (.var b tb cells) k
instance AtV.head {b tb : Nat} {cells : List Value} {H : List Chunk} : AtV (.var b tb cells :: H) b tb cells (fun d => d :: H) := ⟨At.head _ _⟩
instance (priority := low) AtV.tail {b tb : Nat} {cells : List Value} {H : List Chunk} {c : Chunk} {k : Chunk → List Chunk} [i : AtV H b tb cells k] : AtV (c :: H) b tb cells (fun x => c :: k x) := ⟨i.h.tail⟩
instance AtV.app {b tb : Nat} {cells : List Value} {G H : List Chunk} {k : Chunk → List Chunk} [i : AtV H b tb cells k] : AtV (G ++ H) b tb cells (fun x => G ++ k x) := ⟨i.h.app⟩
section
variable {P : Program} {w0 : World} {N : Nat} {r : Option Nat} {fr : Fr} {ds : List Deferred} {H : List Chunk} {ops : Array Oper} {l : List Oper} {o : Oper} {K : Cont} {dd : Option Tmp}
theorem QV.v1 (T : Tab P) {t : TypeId} {x : Operand} {b j : Nat} {v : Value} {d : TypeDesc} {tb : TypeId} {cells : List Value} {k : Chunk → List Chunk} (ho : o.op = .load t x := by rfl) (hx : ev fr x = .pointer (some ⟨b, j, none⟩) := by rfl) (hd : T.desc t = some d := by rfl) (ha : isAggD d = false := by rfl)
    (hat : At H (.var b tb cells) k := by repeat first | exact At.head _ _ | assumption | exact At.put (by assumption) _ | apply At.tail | apply At.app) (hv : cells[j]? = some v := by rfl) : QV P w0 fr H o v := QV.load_var1 T ho hx hd ha hat hv
theorem QV.vN (T : Tab P) {t : TypeId} {x : Operand} {b j : Nat} {vs : List Value} {d : TypeDesc} {i : TypeInfo} {tb : TypeId} {cells : List Value} {k : Chunk → List Chunk} (ho : o.op = .load t x) (hx : ev fr x = .pointer (some ⟨b, j, none⟩)) (hd : T.desc t = some d) (ha : isAggD d = true) (hi : T.info t = some i) [hat : AtV H b tb cells k] (hv : (cells.drop j).take i.size = vs) (hl : i.size = vs.length := by rfl) : QV P w0 fr H o (.agg vs.toArray) := QV.load_varN T ho hx hd ha hi hat.h hv hl
theorem NV.s1 (T : Tab P) {R : Value → List Chunk → Prop} {t tb : TypeId} {x y : Operand} {b j : Nat} {i : TypeInfo} {v : Value} {cells cells' : List Value} {k : Chunk → List Chunk} (hk : R undef (k (.var b tb cells')))
    (ho : o.op = .store t x y := by rfl) (hx : ev fr x = .pointer (some ⟨b, j, none⟩) := by rfl) (hi : T.info t = some i := by rfl) (hs : Nat.beq i.size 1 = true := by rfl) (hv : ev fr y = v := by conv => lhs; whnf)
    (h1 : v.oneCell' = true := by rfl) (hat : At H (.var b tb cells) k := by repeat first | exact At.head _ _ | assumption | exact At.put (by assumption) _ | apply At.tail | apply At.app) (hl : Nat.blt j cells.length = true := by rfl) (hc' : cells.set j v = cells' := by first | conv => { lhs; simp only [List.set_cons_zero, List.set_cons_succ] } | rfl) : NV P w0 r fr H o R := NV.store_var1 T ho hx hi hs hv h1 hat hl hc' hk
theorem NV.sN (T : Tab P) {R : Value → List Chunk → Prop} {t tb : TypeId} {x y : Operand} {b j : Nat} {i : TypeInfo} {vs cells cells' : List Value} {k : Chunk → List Chunk} (ho : o.op = .store t x y) (hx : ev fr x = .pointer (some ⟨b, j, none⟩)) (hi : T.info t = some i) (hv : (ev fr y).cells.toList = vs) [hat : AtV H b tb cells k] (hc : spliceL cells j vs = cells') (hk : R undef (k (.var b tb cells')))
    (hs : i.size = vs.length := by rfl) (h1 : vs.all Value.oneCell' = true := by rfl) (hl : Nat.ble (j + vs.length) cells.length = true := by rfl) : NV P w0 r fr H o R := NV.store_var T ho hx hi hv hs h1 hat.h (Nat.le_of_ble_eq_true hl) hc hk
theorem RVs.t {t : Tmp} {v : Value} {rs : List ResultVar} {vs : List Value} (hr : RVs w0 P fr H rs vs) (h : fr t = v := by conv => lhs; whnf) : RVs w0 P fr H (.tmp t :: rs) (v :: vs) := .tmp h hr
theorem RVs.c1 (T : Tab P) {a : Tmp} {t : TypeId} {b j : Nat} {v : Value} {d : TypeDesc} {tb : TypeId} {cells : List Value} {k : Chunk → List Chunk} {rs : List ResultVar} {vs : List Value} (hr : RVs w0 P fr H rs vs) (h : fr a = .pointer (some ⟨b, j, none⟩) := by rfl) (hd : T.desc t = some d := by rfl) (ha : isAggD d = false := by rfl)
    (hat : At H (.var b tb cells) k := by repeat first | exact At.head _ _ | assumption | exact At.put (by assumption) _ | apply At.tail | apply At.app) (hv : cells[j]? = some v := by rfl) : RVs w0 P fr H (.cell a t :: rs) (v :: vs) := RVs.var1 T h hd ha hat hv hr
theorem RVs.cN (T : Tab P) {a : Tmp} {t : TypeId} {b j : Nat} {us : List Value} {d : TypeDesc} {i : TypeInfo} {tb : TypeId} {cells : List Value} {k : Chunk → List Chunk} {rs : List ResultVar} {vs : List Value} (h : fr a = .pointer (some ⟨b, j, none⟩)) (hd : T.desc t = some d) (ha : isAggD d = true) (hi : T.info t = some i)
    [hat : AtV H b tb cells k] (hv : (cells.drop j).take i.size = us) (hr : RVs w0 P fr H rs vs) (hl : i.size = us.length := by rfl) : RVs w0 P fr H (.cell a t :: rs) (.agg us.toArray :: vs) := RVs.varN T h hd ha hi hat.h hv hl hr
theorem retQ.ra {rs : List ResultVar} {R : Value → List Chunk → Prop} {vs : List Value} (H' : List Chunk) (hv : RVs w0 P fr H rs vs) (h : R (resV vs) H')
    (hH : ∀ w, Sat w0 w H → Sat w0 w H' := by intro w hw; first | exact hw | exact Sat.sub (by repeat first | exact List.Sublist.refl _ | apply List.Sublist.cons_cons | apply List.Sublist.cons | exact List.sublist_append_right _ _ | refine List.Sublist.trans ?_ (List.sublist_append_right _ _)) hw) : retQ P w0 rs R .ret fr [] H := retQ.ret hv hH h
theorem retQ.na {rs : List ResultVar} {R : Value → List Chunk → Prop} {vs : List Value} (H' : List Chunk) (hv : RVs w0 P fr H rs vs) (h : R (resV vs) H')
    (hH : ∀ w, Sat w0 w H → Sat w0 w H' := by intro w hw; first | exact hw | exact Sat.sub (by repeat first | exact List.Sublist.refl _ | apply List.Sublist.cons_cons | apply List.Sublist.cons | exact List.sublist_append_right _ _ | refine List.Sublist.trans ?_ (List.sublist_append_right _ _)) hw) : retQ P w0 rs R .normal fr [] H := retQ.norm hv hH h
theorem retQ.rk {rs : List ResultVar} {R : Value → List Chunk → Prop} {vs : List Value} (hv : RVs w0 P fr H rs vs) (h : R (resV vs) H) : retQ P w0 rs R .ret fr [] H := retQ.ret hv (fun _ hw => hw) h
theorem retQ.nk {rs : List ResultVar} {R : Value → List Chunk → Prop} {vs : List Value} (hv : RVs w0 P fr H rs vs) (h : R (resV vs) H) : retQ P w0 rs R .normal fr [] H := retQ.norm hv (fun _ hw => hw) h
end
section
variable {P : Program} {w0 : World} {r : Option Nat} {ops : Array Oper} {W : List (Nat × Nat)} {B : List (List Nat)}
theorem RD.p (T : Tab P) {fr : Fr} {K : Fr → List Chunk → Prop} {n i : Nat} {done : List Nat} {vals : Nat → Value} {H : List Chunk} {o : Oper} {v : Value} (h : RD P w0 r ops W B fr K n (i :: done) (updv vals i v) H) (hq : nextQ ops done = some i := by rfl) (ho : ops[i]? = some o := by rfl) (hg : Gd ops (vw W B fr vals i) o := by first | exact Gd.none rfl | exact Gd.yes rfl rfl)
    (hv : pev T (vw W B fr vals i) o.op = some v := by conv => lhs; whnf; arg 1; whnf) : RD P w0 r ops W B fr K (n + 1) done vals H := RD.q hq ho hg (pev_sound T hv) h
end
section
variable {P : Program} {w0 : World} {N : Nat} {r : Option Nat} {fr : Fr} {ds : List Deferred} {H : List Chunk}
theorem SW.weaken {c : Code} {Q : Post} {H0 : List Chunk} (hs : ∀ w, Sat w0 w H → Sat w0 w H0) (h : SW P w0 N r c fr ds H0 Q) : SW P w0 N r c fr ds H Q := fun tmps w hr hw => h tmps w hr (hs w hw)
/-- Ways that meet again: what comes behind is walked once. -/
theorem SW.seq_join {x y : Code} {Q : Post} (W : List Nat) (H0 : List Chunk) (h1 : ∀ K : Cont, (∀ f H', Mx W fr f → (∀ w, Sat w0 w H' → Sat w0 w H0) → K f ds H') → SW P w0 N r x fr ds H (thenQ K Q)) (h2 : ∀ frU, SW P w0 N r y (mix W frU fr) ds H0 Q) : SW P w0 N r (.seq x y) fr ds H Q := by
  refine SW.seq ((h1 (fun f ds' H' => SW P w0 N r y f ds' H' Q) fun f H' hm hs => ?_))
  rw [hm.eq]
  exact SW.weaken hs (h2 f)
end
end Go.Sep
