import Derived.Test.YtjemdjjmpgjieaaS8
set_option linter.unusedVariables false
set_option linter.unusedSimpArgs false
/- Frames at a loop's head: what the loop doesn't write stays. -/
namespace Go.Sep
open Go Go.RowKit

def mix (W : List Nat) (f g : Fr) : Fr := fun t => cond (W.any (Nat.beq t)) (f t) (g t)
/-- A frame that is g's outside of W. -/
def Mx (W : List Nat) (g F : Fr) : Prop := ∀ t, W.any (Nat.beq t) = false → F t = g t
theorem Mx.eq {W : List Nat} {g F : Fr} (h : Mx W g F) : F = mix W F g := by
  funext t
  unfold mix
  cases hb : W.any (Nat.beq t) with
  | true => rfl
  | false => exact h t hb
theorem Mx.refl {W : List Nat} {g : Fr} : Mx W g g := fun _ _ => rfl
theorem Mx.mix {W : List Nat} {f g : Fr} : Mx W g (mix W f g) := fun t h => by unfold Go.Sep.mix; rw [h]; rfl
theorem Mx.upd {W : List Nat} {g F : Fr} {d : Nat} {v : Value} (hd : W.any (Nat.beq d) = true) (h : Mx W g F) : Mx W g (upd F d v) := by
  intro t ht
  unfold Go.Sep.upd
  cases hb : Nat.beq t d with
  | false => exact h t ht
  | true => rw [Nat.eq_of_beq_eq_true hb, hd] at ht; cases ht
theorem Mx.put {W : List Nat} {g F : Fr} {d : Nat} {v : Value} (hd : W.any (Nat.beq d) = true) (h : Mx W g F) : Mx W g (putF F (some d) v) := Mx.upd hd h
theorem Mx.none {W : List Nat} {g F : Fr} {v : Value} (h : Mx W g F) : Mx W g (putF F .none v) := h
theorem Mx.inner {W V : List Nat} {f g F : Fr} (hs : V.all (fun t => W.any (Nat.beq t)) = true) (h : Mx W g F) : Mx W g (Go.Sep.mix V f F) := by
  intro t ht
  unfold Go.Sep.mix
  cases hb : V.any (Nat.beq t) with
  | false => exact h t ht
  | true =>
    rw [List.any_eq_true] at hb
    obtain ⟨x, hx, he⟩ := hb
    have := List.all_eq_true.1 hs x hx
    rw [← Nat.eq_of_beq_eq_true he, ht] at this; cases this
def wrote (W : List Nat) (l : List Oper) : Bool := l.all fun o => match o.dst with | some d => W.any (Nat.beq d) | none => true
theorem Mx.fin {W : List Nat} {g : Fr} {vals : Nat → Value} : ∀ {l : List Oper} {i : Nat} {F : Fr}, wrote W l = true → Mx W g F → Mx W g (finF l i vals F)
  | [], i, F, _, h => h
  | o :: l, i, F, hw, h => by
    simp only [wrote, List.all_cons, Bool.and_eq_true] at hw
    unfold finF
    refine Mx.fin (l := l) hw.2 ?_
    cases hd : o.dst with
    | none => exact h
    | some d => rw [hd] at hw; exact Mx.upd hw.1 h

def updl : List (Nat × Value) → Fr → Fr
  | [], f => f
  | p :: l, f => upd (updl l f) p.1 p.2
theorem Mx.updl {W : List Nat} {g F : Fr} : ∀ {l : List (Nat × Value)}, l.all (fun p => W.any (Nat.beq p.1)) = true → Mx W g F → Mx W g (updl l F)
  | [], _, h => h
  | p :: l, hl, h => by
    simp only [List.all_cons, Bool.and_eq_true] at hl
    exact Mx.upd hl.1 (Mx.updl hl.2 h)
/-- A frame that is g's outside of W and has these values. -/
inductive FrIs (W : List Nat) (g F : Fr) : List (Nat × Value) → Prop
  | nil (h : Mx W g F) : FrIs W g F []
  | cons {d : Nat} {v : Value} {l : List (Nat × Value)} (h : F d = v) (hl : FrIs W g F l) : FrIs W g F ((d, v) :: l)
theorem FrIs.consI {W : List Nat} {g F : Fr} {d : Nat} {k : IntKind} {z z' : Int} {l : List (Nat × Value)} (h : F d = .int k z') (e : z' = z) (hl : FrIs W g F l) : FrIs W g F ((d, .int k z) :: l) := .cons (by rw [h, e]) hl
theorem FrIs.consB {W : List Nat} {g F : Fr} {d : Nat} {b b' : Bool} {l : List (Nat × Value)} (h : F d = .bool b') (e : b' = b) (hl : FrIs W g F l) : FrIs W g F ((d, .bool b) :: l) := .cons (by rw [h, e]) hl
theorem FrIs.mx {W : List Nat} {g F : Fr} {l : List (Nat × Value)} (h : FrIs W g F l) : Mx W g F := by
  induction h with
  | nil h => exact h
  | cons _ _ ih => exact ih
theorem FrIs.is {W : List Nat} {g F : Fr} {l : List (Nat × Value)} (h : FrIs W g F l) : F = Go.Sep.updl l (Go.Sep.mix W F g) := by
  induction h with
  | nil h => exact h.eq
  | cons h _ ih =>
    unfold Go.Sep.updl
    rw [← ih]
    exact upd_eta h
theorem FrIs.eq {W : List Nat} {g F : Fr} {l : List (Nat × Value)} (h : FrIs W g F l) : ∃ frU, F = Go.Sep.updl l (Go.Sep.mix W frU g) := ⟨F, h.is⟩

section
variable {P : Program} {w0 : World} {N : Nat} {r : Option Nat} {fr : Fr} {ds : List Deferred} {H : List Chunk} {Q : Post}
/-- A loop whose relation knows the frame at its beginning. -/
theorem SW.loopM {c : Code} (J : Fr → Nat → Fr → List Deferred → List Chunk → Prop) {n : Nat} (h0 : J fr n fr ds H)
    (h : ∀ n fr' ds H, J fr n fr' ds H → SW P w0 N r c fr' ds H (thenQ (fun fr' ds' H' => ∃ n', n' < n ∧ J fr n' fr' ds' H') Q)) : SW P w0 N r (.loop c) fr ds H Q :=
  SW.loop (J fr) h0 h
end
end Go.Sep
