import Derived.Test.YtjemdjjmpgjieaaS27
set_option linter.unusedVariables false
set_option linter.unusedSimpArgs false
/- What is held, taken piece by piece: one list of pieces has all of another. -/
namespace Go.Sep
open Go Go.RowKit

/-- 'c' taken out of H leaves R. -/
inductive Tk : List Chunk → Chunk → List Chunk → Prop
  | head (c : Chunk) (H : List Chunk) : Tk (c :: H) c H
  | tail {c d : Chunk} {H R : List Chunk} (h : Tk H c R) : Tk (d :: H) c (d :: R)
  | app {c : Chunk} {A H R : List Chunk} (h : Tk H c R) : Tk (A ++ H) c (A ++ R)
theorem Tk.perm {H R : List Chunk} {c : Chunk} (h : Tk H c R) : H.Perm (c :: R) := by
  induction h with
  | head => exact .refl _
  | tail _ ih => exact (ih.cons _).trans (.swap _ _ _)
  | app _ ih => exact (ih.append_left _).trans List.perm_middle
/-- A list 'A' taken out of H leaves R. -/
inductive TkL : List Chunk → List Chunk → List Chunk → Prop
  | head (A H : List Chunk) : TkL (A ++ H) A H
  | all (A : List Chunk) : TkL A A []
  | tail {A H R : List Chunk} {d : Chunk} (h : TkL H A R) : TkL (d :: H) A (d :: R)
  | app {A B H R : List Chunk} (h : TkL H A R) : TkL (B ++ H) A (B ++ R)
theorem TkL.perm {H R A : List Chunk} (h : TkL H A R) : H.Perm (A ++ R) := by
  induction h with
  | head => exact .refl _
  | all => simp
  | tail _ ih => exact (ih.cons _).trans List.perm_middle.symm
  | app _ ih => 
    refine (ih.append_left _).trans ?_
    rw [← List.append_assoc, ← List.append_assoc]
    exact List.perm_append_comm.append_right _
/-- H has all that T has. -/
def SubL (H T : List Chunk) : Prop := ∃ R, H.Perm (T ++ R)
theorem SubL.refl (H : List Chunk) : SubL H H := ⟨[], by simp⟩
theorem SubL.nil (H : List Chunk) : SubL H [] := ⟨H, .refl _⟩
theorem SubL.cons {H R T : List Chunk} {c : Chunk} (h : Tk H c R) (h2 : SubL R T) : SubL H (c :: T) := by
  obtain ⟨Q, hq⟩ := h2
  exact ⟨Q, h.perm.trans (hq.cons _)⟩
theorem SubL.consL {H R T A : List Chunk} (h : TkL H A R) (h2 : SubL R T) : SubL H (A ++ T) := by
  obtain ⟨Q, hq⟩ := h2
  exact ⟨Q, h.perm.trans (by rw [List.append_assoc]; exact hq.append_left _)⟩
theorem SubL.one {H R A : List Chunk} (h : TkL H A R) : SubL H A := ⟨R, h.perm⟩
theorem SubL.drop {H T : List Chunk} {d : Chunk} (h : SubL H T) : SubL (d :: H) T := by
  obtain ⟨Q, hq⟩ := h
  exact ⟨d :: Q, (hq.cons _).trans List.perm_middle.symm⟩
theorem SubL.dropL {H T A : List Chunk} (h : SubL H T) : SubL (A ++ H) T := by
  obtain ⟨Q, hq⟩ := h
  refine ⟨A ++ Q, (hq.append_left _).trans ?_⟩
  rw [← List.append_assoc, ← List.append_assoc]
  exact List.perm_append_comm.append_right _
theorem SubL.trans {A B C : List Chunk} (h : SubL A B) (h2 : SubL B C) : SubL A C := by
  obtain ⟨Q, hq⟩ := h
  obtain ⟨R, hr⟩ := h2
  exact ⟨R ++ Q, hq.trans (by rw [← List.append_assoc]; exact hr.append_right _)⟩
theorem SubL.sat {w0 w : World} {H T : List Chunk} (h : SubL H T) (hw : Sat w0 w H) : Sat w0 w T := by
  obtain ⟨Q, hq⟩ := h
  exact Sat.sub (List.sublist_append_left T Q) (hw.perm hq)
theorem SubL.rd {w0 : World} {H T : List Chunk} (h : SubL H T) {a : Option Addr} {n c sz : Nat} {xs : List Value} (hR : Rd w0 T a n c sz xs) : Rd w0 H a n c sz xs := hR.weaken fun _ hw => h.sat hw
/-! The same, found by instances: quick where it holds to the letter. -/
class TkI (H : List Chunk) (c : Chunk) (R : outParam (List Chunk)) : Prop where
  out : Tk H c R
instance (priority := 1000) TkI.head {c : Chunk} {H : List Chunk} : TkI (c :: H) c H := ⟨.head _ _⟩
instance (priority := 900) TkI.tail {c d : Chunk} {H R : List Chunk} [h : TkI H c R] : TkI (d :: H) c (d :: R) := ⟨.tail h.out⟩
instance (priority := 800) TkI.app {c : Chunk} {A H R : List Chunk} [h : TkI H c R] : TkI (A ++ H) c (A ++ R) := ⟨.app h.out⟩
instance (priority := 1100) TkI.assoc {c : Chunk} {A B H R : List Chunk} [h : TkI (A ++ (B ++ H)) c R] : TkI ((A ++ B) ++ H) c R := ⟨by rw [List.append_assoc]; exact h.out⟩
instance (priority := 1100) TkI.consA {c d : Chunk} {A H R : List Chunk} [h : TkI (d :: (A ++ H)) c R] : TkI ((d :: A) ++ H) c R := ⟨h.out⟩
class TkLI (H A : List Chunk) (R : outParam (List Chunk)) : Prop where
  out : TkL H A R
instance (priority := 1000) TkLI.head {A H : List Chunk} : TkLI (A ++ H) A H := ⟨.head _ _⟩
instance (priority := 1000) TkLI.all {A : List Chunk} : TkLI A A [] := ⟨.all _⟩
instance (priority := 900) TkLI.tail {A H R : List Chunk} {d : Chunk} [h : TkLI H A R] : TkLI (d :: H) A (d :: R) := ⟨.tail h.out⟩
instance (priority := 800) TkLI.app {A B H R : List Chunk} [h : TkLI H A R] : TkLI (B ++ H) A (B ++ R) := ⟨.app h.out⟩
instance (priority := 1100) TkLI.assoc {C A B H R : List Chunk} [h : TkLI (A ++ (B ++ H)) C R] : TkLI ((A ++ B) ++ H) C R := ⟨by rw [List.append_assoc]; exact h.out⟩
instance (priority := 1100) TkLI.consA {C : List Chunk} {d : Chunk} {A H R : List Chunk} [h : TkLI (d :: (A ++ H)) C R] : TkLI ((d :: A) ++ H) C R := ⟨h.out⟩
class SubI (H T : List Chunk) : Prop where
  out : SubL H T
instance (priority := 1200) SubI.refl {H : List Chunk} : SubI H H := ⟨.refl _⟩
instance (priority := 1200) SubI.nil {H : List Chunk} : SubI H [] := ⟨.nil _⟩
instance (priority := 1100) SubI.assoc {H A B T : List Chunk} [h : SubI H (A ++ (B ++ T))] : SubI H ((A ++ B) ++ T) := ⟨by rw [List.append_assoc]; exact h.out⟩
instance (priority := 1100) SubI.consA {H A T : List Chunk} {c : Chunk} [h : SubI H (c :: (A ++ T))] : SubI H ((c :: A) ++ T) := ⟨h.out⟩
instance (priority := 1100) SubI.nilA {H T : List Chunk} [h : SubI H T] : SubI H ([] ++ T) := ⟨h.out⟩
instance (priority := 1000) SubI.cons {H R T : List Chunk} {c : Chunk} [h : TkI H c R] [h2 : SubI R T] : SubI H (c :: T) := ⟨.cons h.out h2.out⟩
instance (priority := 900) SubI.consL {H R T A : List Chunk} [h : TkLI H A R] [h2 : SubI R T] : SubI H (A ++ T) := ⟨.consL h.out h2.out⟩
instance (priority := 800) SubI.one {H R A : List Chunk} [h : TkLI H A R] : SubI H A := ⟨.one h.out⟩
section
variable {P : Program} {w0 : World} {N : Nat} {r : Option Nat} {fr : Fr} {ds : List Deferred} {H : List Chunk}
theorem SC.wk {f : FuncId} {args : Array Value} {R : Value → List Chunk → Prop} {H0 : List Chunk} (h : SC P w0 f args H0 R) (hs : SubL H H0 := by first | exact SubI.out | ((try simp only [List.append_assoc, List.cons_append, List.nil_append]); repeat first | with_reducible exact SubL.refl _ | with_reducible exact SubL.nil _ | refine SubL.cons (by first | ((repeat first | with_reducible exact Tk.head _ _ | with_reducible apply Tk.tail | with_reducible apply Tk.app); done) | (repeat first | exact Tk.head _ _ | apply Tk.tail | apply Tk.app)) ?_ | refine SubL.consL (by repeat first | with_reducible exact TkL.head _ _ | with_reducible apply TkL.tail | with_reducible apply TkL.app) ?_ | exact SubL.one (by repeat first | with_reducible exact TkL.head _ _ | with_reducible exact TkL.all _ | with_reducible apply TkL.tail | with_reducible apply TkL.app) | with_reducible apply SubL.drop | with_reducible apply SubL.dropL)) : SC P w0 f args H R := fun w hw => h w (hs.sat hw)
theorem SCD.wk {f : FuncId} {args : Array Value} {R : Value → List Chunk → Prop} {H0 : List Chunk} (h : SCD P w0 f args H0 R) (hs : SubL H H0 := by first | exact SubI.out | ((try simp only [List.append_assoc, List.cons_append, List.nil_append]); repeat first | with_reducible exact SubL.refl _ | with_reducible exact SubL.nil _ | refine SubL.cons (by first | ((repeat first | with_reducible exact Tk.head _ _ | with_reducible apply Tk.tail | with_reducible apply Tk.app); done) | (repeat first | exact Tk.head _ _ | apply Tk.tail | apply Tk.app)) ?_ | refine SubL.consL (by repeat first | with_reducible exact TkL.head _ _ | with_reducible apply TkL.tail | with_reducible apply TkL.app) ?_ | exact SubL.one (by repeat first | with_reducible exact TkL.head _ _ | with_reducible exact TkL.all _ | with_reducible apply TkL.tail | with_reducible apply TkL.app) | with_reducible apply SubL.drop | with_reducible apply SubL.dropL)) : SCD P w0 f args H R := fun w hw => h w (hs.sat hw)
theorem SW.wk {c : Code} {Q : Post} (H0 : List Chunk) (h : SW P w0 N r c fr ds H0 Q) (hs : SubL H H0 := by first | exact SubI.out | ((try simp only [List.append_assoc, List.cons_append, List.nil_append]); repeat first | with_reducible exact SubL.refl _ | with_reducible exact SubL.nil _ | refine SubL.cons (by first | ((repeat first | with_reducible exact Tk.head _ _ | with_reducible apply Tk.tail | with_reducible apply Tk.app); done) | (repeat first | exact Tk.head _ _ | apply Tk.tail | apply Tk.app)) ?_ | refine SubL.consL (by repeat first | with_reducible exact TkL.head _ _ | with_reducible apply TkL.tail | with_reducible apply TkL.app) ?_ | exact SubL.one (by repeat first | with_reducible exact TkL.head _ _ | with_reducible exact TkL.all _ | with_reducible apply TkL.tail | with_reducible apply TkL.app) | with_reducible apply SubL.drop | with_reducible apply SubL.dropL)) : SW P w0 N r c fr ds H Q := SW.weaken (fun _ hw => hs.sat hw) h
theorem RL.wk {ops : Array Oper} {l : List Oper} {K : Cont} (H0 : List Chunk) (h : RL P w0 N r ops l fr ds H0 K) (hs : SubL H H0 := by first | exact SubI.out | ((try simp only [List.append_assoc, List.cons_append, List.nil_append]); repeat first | with_reducible exact SubL.refl _ | with_reducible exact SubL.nil _ | refine SubL.cons (by first | ((repeat first | with_reducible exact Tk.head _ _ | with_reducible apply Tk.tail | with_reducible apply Tk.app); done) | (repeat first | exact Tk.head _ _ | apply Tk.tail | apply Tk.app)) ?_ | refine SubL.consL (by repeat first | with_reducible exact TkL.head _ _ | with_reducible apply TkL.tail | with_reducible apply TkL.app) ?_ | exact SubL.one (by repeat first | with_reducible exact TkL.head _ _ | with_reducible exact TkL.all _ | with_reducible apply TkL.tail | with_reducible apply TkL.app) | with_reducible apply SubL.drop | with_reducible apply SubL.dropL)) : RL P w0 N r ops l fr ds H K := fun tmps w idx hi hr hw => h tmps w idx hi hr (hs.sat hw)
theorem SC.out {f : FuncId} {args : Array Value} {R R' : Value → List Chunk → Prop} (h : SC P w0 f args H R) (hr : ∀ v H', R v H' → ∃ H2, SubL H' H2 ∧ R' v H2) : SC P w0 f args H R' :=
  fun w hw => (h w hw).mono fun _ _ ⟨v, H', e, s, q⟩ => let ⟨H2, hs, q2⟩ := hr _ _ q; ⟨v, H2, e, hs.sat s, q2⟩
theorem SubL.by {H T : List Chunk} (h : SubL H T := by first | exact SubI.out | ((try simp only [List.append_assoc, List.cons_append, List.nil_append]); repeat first | with_reducible exact SubL.refl _ | with_reducible exact SubL.nil _ | refine SubL.cons (by first | ((repeat first | with_reducible exact Tk.head _ _ | with_reducible apply Tk.tail | with_reducible apply Tk.app); done) | (repeat first | exact Tk.head _ _ | apply Tk.tail | apply Tk.app)) ?_ | refine SubL.consL (by repeat first | with_reducible exact TkL.head _ _ | with_reducible apply TkL.tail | with_reducible apply TkL.app) ?_ | exact SubL.one (by repeat first | with_reducible exact TkL.head _ _ | with_reducible exact TkL.all _ | with_reducible apply TkL.tail | with_reducible apply TkL.app) | with_reducible apply SubL.drop | with_reducible apply SubL.dropL)) : SubL H T := h
theorem SC.outS {f : FuncId} {args : Array Value} {R R' : Value → List Chunk → Prop} (h : SC P w0 f args H R) (hr : ∀ v H', (∃ w, Sat w0 w H') → R v H' → ∃ H2, SubL H' H2 ∧ R' v H2) : SC P w0 f args H R' :=
  fun w hw => (h w hw).mono fun _ w' ⟨v, H', e, s, q⟩ => let ⟨H2, hs, q2⟩ := hr _ _ ⟨w', s⟩ q; ⟨v, H2, e, hs.sat s, q2⟩
theorem retQ.wk {rs : List ResultVar} {R : Value → List Chunk → Prop} {e : Exit} (H0 : List Chunk) (h : retQ P w0 rs R e fr [] H0) (hs : SubL H H0 := by first | exact SubI.out | ((try simp only [List.append_assoc, List.cons_append, List.nil_append]); repeat first | with_reducible exact SubL.refl _ | with_reducible exact SubL.nil _ | refine SubL.cons (by first | ((repeat first | with_reducible exact Tk.head _ _ | with_reducible apply Tk.tail | with_reducible apply Tk.app); done) | (repeat first | exact Tk.head _ _ | apply Tk.tail | apply Tk.app)) ?_ | refine SubL.consL (by repeat first | with_reducible exact TkL.head _ _ | with_reducible apply TkL.tail | with_reducible apply TkL.app) ?_ | exact SubL.one (by repeat first | with_reducible exact TkL.head _ _ | with_reducible exact TkL.all _ | with_reducible apply TkL.tail | with_reducible apply TkL.app) | with_reducible apply SubL.drop | with_reducible apply SubL.dropL)) : retQ P w0 rs R e fr [] H := by
  have key : ∀ {vs : List Value}, RVs w0 P fr H0 rs vs → RVs w0 P fr H rs vs := by
    intro vs hv
    clear h
    induction hv with
    | nil => exact .nil
    | tmp hx _ ih => exact .tmp hx ih
    | cell hx hl _ ih => exact .cell hx (fun w hw => hl w (hs.sat hw)) ih
  cases e with
  | normal => obtain ⟨hd, vs, H', hv, hH, hR⟩ := h; exact ⟨hd, vs, H', key hv, fun w hw => hH w (hs.sat hw), hR⟩
  | ret => obtain ⟨hd, vs, H', hv, hH, hR⟩ := h; exact ⟨hd, vs, H', key hv, fun w hw => hH w (hs.sat hw), hR⟩
  | _ => exact h.elim
theorem retQ.nilrow {rs : List ResultVar} {R : Value → List Chunk → Prop} {ex : Exit} (e : TypeId) (sz : Nat) (h : retQ P w0 rs R ex fr [] (.row none 0 0 e sz [] :: H)) : retQ P w0 rs R ex fr [] H := by
  have hs : ∀ w, Sat w0 w H → Sat w0 w (.row none 0 0 e sz [] :: H) := fun w hw => hw.nilrow e sz
  have key : ∀ {vs : List Value}, RVs w0 P fr (.row none 0 0 e sz [] :: H) rs vs → RVs w0 P fr H rs vs := by
    intro vs hv
    clear h
    induction hv with
    | nil => exact .nil
    | tmp hx _ ih => exact .tmp hx ih
    | cell hx hl _ ih => exact .cell hx (fun w hw => hl w (hs w hw)) ih
  cases ex with
  | normal => obtain ⟨hd, vs, H', hv, hH, hR⟩ := h; exact ⟨hd, vs, H', key hv, fun w hw => hH w (hs w hw), hR⟩
  | ret => obtain ⟨hd, vs, H', hv, hH, hR⟩ := h; exact ⟨hd, vs, H', key hv, fun w hw => hH w (hs w hw), hR⟩
  | _ => exact h.elim
/-- Ways that meet again, with what is then known. -/
theorem SW.seq_mid {x y : Code} {Q : Post} (W : List Nat) (J : List Chunk → Prop) (h1 : ∀ K : Cont, (∀ f H', Mx W fr f → (∃ H2, SubL H' H2 ∧ J H2) → K f ds H') → SW P w0 N r x fr ds H (thenQ K Q)) (h2 : ∀ frU H2, J H2 → SW P w0 N r y (mix W frU fr) ds H2 Q) : SW P w0 N r (.seq x y) fr ds H Q := by
  refine SW.seq ((h1 (fun f ds' H' => SW P w0 N r y f ds' H' Q) fun f H' hm ⟨H2, hs, hJ⟩ => ?_))
  rw [hm.eq]
  exact SW.wk H2 (h2 f H2 hJ) hs
theorem satT {H0 : List Chunk} (h : ∃ w, Sat w0 w H) (hs : SubL H H0 := by first | exact SubI.out | ((try simp only [List.append_assoc, List.cons_append, List.nil_append]); repeat first | with_reducible exact SubL.refl _ | with_reducible exact SubL.nil _ | refine SubL.cons (by first | ((repeat first | with_reducible exact Tk.head _ _ | with_reducible apply Tk.tail | with_reducible apply Tk.app); done) | (repeat first | exact Tk.head _ _ | apply Tk.tail | apply Tk.app)) ?_ | refine SubL.consL (by repeat first | with_reducible exact TkL.head _ _ | with_reducible apply TkL.tail | with_reducible apply TkL.app) ?_ | exact SubL.one (by repeat first | with_reducible exact TkL.head _ _ | with_reducible exact TkL.all _ | with_reducible apply TkL.tail | with_reducible apply TkL.app) | with_reducible apply SubL.drop | with_reducible apply SubL.dropL)) : ∃ w, Sat w0 w H0 := let ⟨w, hw⟩ := h; ⟨w, hs.sat hw⟩
end
end Go.Sep
