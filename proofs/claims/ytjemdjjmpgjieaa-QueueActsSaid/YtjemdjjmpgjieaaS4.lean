import Derived.Test.YtjemdjjmpgjieaaS3
set_option linter.unusedVariables false
set_option linter.unusedSimpArgs false
/- Statements whose operations may go in more than one order: one order is told, and what else may come first reads the same. -/
namespace Go.Sep
open Go Go.RowKit

def quietB : Builtin → Bool
  | .len | .cap | .min | .max => true
  | _ => false
def quietOp : Op → Bool
  | .move _ | .assign _ | .pick .. | .build .. | .load .. | .nilCheck _ | .binOp .. | .unOp .. | .convert .. | .makeInterface .. | .makeFunc .. | .slice .. | .fieldAddr .. | .field .. | .indexAddr .. | .index .. | .lookup .. | .typeAssert .. | .extract .. => true
  | .call c => match c.callee with | .builtin b => quietB b | _ => false
  | _ => false
def dirs (o : Oper) : List Nat := (o.after.toList.filter (fun e => Region.binds .any e)).map (·.on)
def slotsOf (ops : Array Oper) (o : Oper) : List Nat := (o.op.operands.toList.filterMap fun | .tmp t => some t | _ => none) ++ (match gslot ops o with | some (d, _) => [d] | none => [])
def isQ (ops : Array Oper) (i : Nat) : Bool := match ops[i]? with | some o => quietOp o.op | none => true
def hasL (l : List Nat) (i : Nat) : Bool := l.any (Nat.beq i)
def rdy (ops : Array Oper) (done : List Nat) (i : Nat) : Bool := !hasL done i && match ops[i]? with | some o => (dirs o).all (hasL done) | none => false
def nextQ (ops : Array Oper) (done : List Nat) : Option Nat := (List.range ops.size).find? fun i => rdy ops done i && isQ ops i
def readyN (ops : Array Oper) (done : List Nat) : List Nat := (List.range ops.size).filter fun i => rdy ops done i
def befOf (B : List (List Nat)) (i : Nat) : List Nat := B.getD i []
def wr (W : List (Nat × Nat)) (t : Nat) : Option Nat := (W.find? fun p => Nat.beq t p.1).map (·.2)
/-- The frame as operation i sees it. -/
def vw (W : List (Nat × Nat)) (B : List (List Nat)) (fr : Fr) (vals : Nat → Value) (i : Nat) : Fr := fun t =>
  match wr W t with
  | some p => cond (hasL (befOf B i) p) (vals p) (fr t)
  | none => fr t
def updv (vals : Nat → Value) (i : Nat) (v : Value) : Nat → Value := fun j => cond (Nat.beq j i) v (vals j)
def finF : List Oper → Nat → (Nat → Value) → Fr → Fr
  | [], _, _, fr => fr
  | o :: l, i, vals, fr => finF l (i + 1) vals (putF fr o.dst (vals i))

def okDraw (ops : Array Oper) (N : Nat) (W : List (Nat × Nat)) (B : List (List Nat)) : Bool :=
  (List.range ops.size).all fun i => match ops[i]? with
    | none => true
    | some o =>
      (match o.op with | .select .. => false | .defer _ => false | _ => true) && dstOK N o.dst &&
      (match o.guard with | none => true | some _ => (gslot ops o).isSome) &&
      (dirs o).all (fun j => Nat.blt j i) &&
      (befOf B i).all (fun j => hasL (dirs o) j || (dirs o).any fun k => Nat.blt k i && hasL (befOf B k) j) &&
      (match o.dst with | some d => (match wr W d with | some p => Nat.beq p i | none => false) | none => true) &&
      (slotsOf ops o).all (fun t => match wr W t with | some p => Nat.beq p i || hasL (befOf B i) p || hasL (befOf B p) i | none => true)

/-- each slot that is told as written is written by that operation -/
def okW (ops : Array Oper) (W : List (Nat × Nat)) : Bool := W.all fun p => match ops[p.2]? with | some o => (match o.dst with | some d => Nat.beq d p.1 | none => false) | none => false

section
variable (P : Program) (w0 : World) (N : Nat) (r : Option Nat) (ops : Array Oper) (W : List (Nat × Nat)) (B : List (List Nat))

inductive QVg (fr : Fr) (H : List Chunk) (o : Oper) (v : Value) : Prop
  | plain (hg : Gd ops fr o) (h : QV P w0 fr H o v)
  | skip {d : Nat} {b : Bool} (hs : gslot ops o = some (d, b)) (ht : isNot (fr d) b = true) (h : v = undef)
inductive NVg (fr : Fr) (H : List Chunk) (o : Oper) (R : Value → List Chunk → Prop) : Prop
  | plain (hg : Gd ops fr o) (h : NV P w0 r fr H o R)
  | skip {d : Nat} {b : Bool} (hs : gslot ops o = some (d, b)) (ht : isNot (fr d) b = true) (h : R undef H)

def Stab (fr : Fr) (H : List Chunk) (vals : Nat → Value) : List Nat → Prop
  | [] => True
  | q :: l => (match ops[q]? with | some o => QVg P w0 ops (vw W B fr vals q) H o (vals q) | none => True) ∧ Stab fr H vals l
def pend (done : List Nat) (i : Nat) : List Nat := done.filter fun q => isQ ops q && !hasL (befOf B i) q

def RD (fr : Fr) (K : Fr → List Chunk → Prop) : Nat → List Nat → (Nat → Value) → List Chunk → Prop
  | 0, _, _, _ => False
  | n + 1, done, vals, H =>
    match nextQ ops done with
    | some i => (match ops[i]? with | some o => ∃ v, QVg P w0 ops (vw W B fr vals i) H o v ∧ RD fr K n (i :: done) (updv vals i v) H | none => False)
    | none => match readyN ops done with
      | [] => K (finF ops.toList 0 vals fr) H
      | l => ∀ i ∈ l, (match ops[i]? with
        | some o => NVg P w0 r ops (vw W B fr vals i) H o fun v H' => Stab P w0 ops W B fr H' (updv vals i v) (pend ops B done i) ∧ RD fr K n (i :: done) (updv vals i v) H'
        | none => False)
/-- One of the noisy operations that may come next. -/
def RD1 (fr : Fr) (K : Fr → List Chunk → Prop) (n : Nat) (done : List Nat) (vals : Nat → Value) (H : List Chunk) (i : Nat) : Prop := match ops[i]? with
  | some o => NVg P w0 r ops (vw W B fr vals i) H o fun v H' => Stab P w0 ops W B fr H' (updv vals i v) (pend ops B done i) ∧ RD P w0 r ops W B fr K n (i :: done) (updv vals i v) H'
  | none => False
end

theorem hasL_iff {l : List Nat} {i : Nat} : hasL l i = true ↔ i ∈ l := by
  unfold hasL
  rw [List.any_eq_true]
  constructor
  · rintro ⟨x, hx, h⟩; rw [Nat.eq_of_beq_eq_true h]; exact hx
  · intro h; exact ⟨i, h, Nat.beq_refl i⟩

section
variable {P : Program} {w0 : World} {N : Nat} {r : Option Nat} {ops : Array Oper} {W : List (Nat × Nat)} {B : List (List Nat)}

structure OK1 (ops : Array Oper) (N : Nat) (W : List (Nat × Nat)) (B : List (List Nat)) (i : Nat) (o : Oper) : Prop where
  nosel : ∀ cs b, o.op ≠ .select cs b
  nodef : ∀ c, o.op ≠ .defer c
  dst : dstOK N o.dst = true
  guard : o.guard = none ∨ (gslot ops o).isSome = true
  back : ∀ j ∈ dirs o, j < i
  bef : ∀ j ∈ befOf B i, j ∈ dirs o ∨ ∃ k ∈ dirs o, k < i ∧ j ∈ befOf B k
  writer : ∀ d, o.dst = some d → wr W d = some i
  reads : ∀ t ∈ slotsOf ops o, ∀ p, wr W t = some p → p = i ∨ p ∈ befOf B i ∨ i ∈ befOf B p

theorem okDraw_spec (h : okDraw ops N W B = true) {i : Nat} {o : Oper} (ho : ops[i]? = some o) : OK1 ops N W B i o := by
  have hi : i < ops.size := (Array.getElem?_eq_some_iff.1 ho).1
  have h1 := List.all_eq_true.1 h i (List.mem_range.2 hi)
  simp only [ho, Bool.and_eq_true] at h1
  obtain ⟨⟨⟨⟨⟨⟨h1, h2⟩, h3⟩, h4⟩, h5⟩, h6⟩, h7⟩ := h1
  refine ⟨fun cs b hc => (by rw [hc] at h1; cases h1), fun c hc => (by rw [hc] at h1; cases h1), h2, ?_, fun j hj => ?_, fun j hj => ?_, fun d hd => ?_, fun t ht p hp => ?_⟩
  · cases hg : o.guard with
    | none => exact .inl rfl
    | some x => rw [hg] at h3; exact .inr h3
  · have := List.all_eq_true.1 h4 j hj
    simpa [Nat.blt_eq] using this
  · have := List.all_eq_true.1 h5 j hj
    rw [Bool.or_eq_true, List.any_eq_true] at this
    rcases this with h | ⟨k, hk, h⟩
    · exact .inl (hasL_iff.1 h)
    · rw [Bool.and_eq_true] at h
      exact .inr ⟨k, hk, by simpa [Nat.blt_eq] using h.1, hasL_iff.1 h.2⟩
  · rw [hd] at h6
    cases hw : wr W d with
    | none => simp [hw] at h6
    | some p => simp only [hw] at h6; rw [Nat.eq_of_beq_eq_true h6]
  · have := List.all_eq_true.1 h7 t ht
    simp only [hp, Bool.or_eq_true] at this
    rcases this with (h | h) | h
    · exact .inl (Nat.eq_of_beq_eq_true h)
    · exact .inr (.inl (hasL_iff.1 h))
    · exact .inr (.inr (hasL_iff.1 h))

/-- What lies before i lies in every closed set that holds what i hangs on directly. -/
theorem bef_sub (hok : okDraw ops N W B = true) (S : Nat → Prop) (hS : ∀ i o, ops[i]? = some o → S i → ∀ j ∈ dirs o, S j) :
    ∀ (i : Nat) (o : Oper), ops[i]? = some o → (∀ j ∈ dirs o, S j) → ∀ j ∈ befOf B i, S j := by
  intro i
  induction i using Nat.strongRecOn with
  | _ i ih =>
    intro o ho hd j hj
    have h1 := okDraw_spec hok ho
    rcases h1.bef j hj with h | ⟨k, hk, hlt, h⟩
    · exact hd j h
    · have hks : k < ops.size := Nat.lt_trans hlt (Array.getElem?_eq_some_iff.1 ho).1
      have hko : ops[k]? = some ops[k] := Array.getElem?_eq_getElem hks
      exact ih k hlt _ hko (hS k _ hko (hd k hk)) j h

theorem rdy_iff {done : List Nat} {i : Nat} : rdy ops done i = true ↔ i ∉ done ∧ ∃ o, ops[i]? = some o ∧ ∀ j ∈ dirs o, j ∈ done := by
  unfold rdy
  rw [Bool.and_eq_true]
  constructor
  · rintro ⟨h1, h2⟩
    refine ⟨fun h => (by rw [hasL_iff.2 h] at h1; cases h1), ?_⟩
    cases ho : ops[i]? with
    | none => rw [ho] at h2; cases h2
    | some o => rw [ho] at h2; exact ⟨o, rfl, fun j hj => hasL_iff.1 (List.all_eq_true.1 h2 j hj)⟩
  · rintro ⟨h1, o, ho, h2⟩
    refine ⟨?_, ?_⟩
    · cases h : hasL done i with
      | false => rfl
      | true => exact absurd (hasL_iff.1 h) h1
    · rw [ho]; exact List.all_eq_true.2 fun j hj => hasL_iff.2 (h2 j hj)

theorem nextQ_none {done : List Nat} (h : nextQ ops done = none) {i : Nat} (hi : i < ops.size) (hr : rdy ops done i = true) : isQ ops i = false := by
  unfold nextQ at h
  have := List.find?_eq_none.1 h i (List.mem_range.2 hi)
  rw [hr] at this
  simpa using this

structure Inv (ops : Array Oper) (W : List (Nat × Nat)) (B : List (List Nat)) (P : Program) (w0 : World) (N : Nat) (fr : Fr) (done : List Nat) (vals : Nat → Value) (H : List Chunk) (listed : Array Bool) (a : Act) (w : World) : Prop where
  sat : Sat w0 w H
  size : listed.size = ops.size
  sub : ∀ i, i < ops.size → listed.getD i false = true → i ∈ done
  noisy : ∀ i ∈ done, isQ ops i = false → listed.getD i false = true
  pend : ∀ q ∈ done, listed.getD q false = false → ∀ o, ops[q]? = some o → QVg P w0 ops (vw W B fr vals q) H o (vals q)
  tsize : a.tmps.size = N
  tmps : ∀ t, a.tmps.getD t undef = match wr W t with | some p => (if listed.getD p false = true then vals p else fr t) | none => fr t
  closedL : ∀ i o, ops[i]? = some o → listed.getD i false = true → ∀ j ∈ dirs o, listed.getD j false = true
  closedD : ∀ i o, ops[i]? = some o → i ∈ done → ∀ j ∈ dirs o, j ∈ done
  lt : ∀ i ∈ done, i < ops.size

theorem vw_congr (fr : Fr) {vals vals' : Nat → Value} {i : Nat} (h : ∀ p ∈ befOf B i, vals p = vals' p) : vw W B fr vals i = vw W B fr vals' i := by
  funext t
  unfold vw
  split
  · rename_i p _
    cases hb : hasL (befOf B i) p with
    | false => rfl
    | true => exact h p (hasL_iff.1 hb)
  · rfl

theorem updv_ne {vals : Nat → Value} {i j : Nat} {v : Value} (h : j ≠ i) : updv vals i v j = vals j := by
  unfold updv
  have : Nat.beq j i = false := by
    cases hb : Nat.beq j i with
    | false => rfl
    | true => exact absurd (Nat.eq_of_beq_eq_true hb) h
  rw [this]; rfl
theorem updv_eq {vals : Nat → Value} {i : Nat} {v : Value} : updv vals i v i = v := by
  unfold updv; rw [Nat.beq_refl]; rfl

theorem Inv.befDone {fr : Fr} {done : List Nat} {vals : Nat → Value} {H : List Chunk} {listed : Array Bool} {a : Act} {w : World} (hok : okDraw ops N W B = true) (h : Inv ops W B P w0 N fr done vals H listed a w) {i : Nat} {o : Oper} (ho : ops[i]? = some o) (hd : ∀ j ∈ dirs o, j ∈ done) : ∀ j ∈ befOf B i, j ∈ done :=
  bef_sub hok (· ∈ done) h.closedD i o ho hd
theorem Inv.befListed {fr : Fr} {done : List Nat} {vals : Nat → Value} {H : List Chunk} {listed : Array Bool} {a : Act} {w : World} (hok : okDraw ops N W B = true) (h : Inv ops W B P w0 N fr done vals H listed a w) {i : Nat} {o : Oper} (ho : ops[i]? = some o) (hd : ∀ j ∈ dirs o, listed.getD j false = true) : ∀ j ∈ befOf B i, listed.getD j false = true :=
  bef_sub hok (fun j => listed.getD j false = true) h.closedL i o ho hd

/-- A quiet operation more is told. -/
theorem Inv.addQ {fr : Fr} {done : List Nat} {vals : Nat → Value} {H : List Chunk} {listed : Array Bool} {a : Act} {w : World} (hok : okDraw ops N W B = true) (h : Inv ops W B P w0 N fr done vals H listed a w) {i : Nat} {o : Oper} {v : Value}
    (hr : rdy ops done i = true) (hq : isQ ops i = true) (ho : ops[i]? = some o) (hv : QVg P w0 ops (vw W B fr vals i) H o v) : Inv ops W B P w0 N fr (i :: done) (updv vals i v) H listed a w := by
  obtain ⟨hn, o', ho', hd⟩ := rdy_iff.1 hr
  rw [ho] at ho'; cases ho'
  have hi : i < ops.size := (Array.getElem?_eq_some_iff.1 ho).1
  have hnl : listed.getD i false = false := by
    cases hl : listed.getD i false with
    | false => rfl
    | true => exact absurd (h.sub i hi hl) hn
  have hvw : ∀ q o, ops[q]? = some o → (∀ j ∈ dirs o, j ∈ done) → vw W B fr (updv vals i v) q = vw W B fr vals q := fun q o hqo hqd =>
    vw_congr fr fun p hp => updv_ne fun e => hn (e ▸ h.befDone hok hqo hqd p hp)
  refine ⟨h.sat, h.size, fun j hj hl => List.mem_cons_of_mem _ (h.sub j hj hl), fun j hj hjq => ?_, fun q hqd hql oq hoq => ?_, h.tsize, fun t => ?_, h.closedL, fun j oj hoj hjd k hk => ?_, fun j hj => ?_⟩
  · rcases List.mem_cons.1 hj with rfl | hj
    · rw [hq] at hjq; cases hjq
    · exact h.noisy j hj hjq
  · rcases List.mem_cons.1 hqd with rfl | hqd
    · rw [ho] at hoq; cases hoq
      rw [hvw q o ho hd, updv_eq]; exact hv
    · have hne : q ≠ i := fun e => hn (e ▸ hqd)
      rw [hvw q oq hoq (h.closedD q oq hoq hqd), updv_ne hne]
      exact h.pend q hqd hql oq hoq
  · rw [h.tmps t]
    cases hw : wr W t with
    | none => rfl
    | some p =>
      simp only []
      by_cases hp : listed.getD p false = true
      · rw [if_pos hp, if_pos hp, updv_ne (fun e => by rw [e, hnl] at hp; cases hp)]
      · rw [if_neg hp, if_neg hp]
  · rcases List.mem_cons.1 hjd with rfl | hjd
    · rw [ho] at hoj; cases hoj; exact List.mem_cons_of_mem _ (hd k hk)
    · exact List.mem_cons_of_mem _ (h.closedD j oj hoj hjd k hk)
  · rcases List.mem_cons.1 hj with rfl | hj
    · exact hi
    · exact h.lt j hj

/-- All quiet operations that can be told are. -/
theorem RD.advance {fr : Fr} {K : Fr → List Chunk → Prop} (hok : okDraw ops N W B = true) : ∀ (n : Nat) (done : List Nat) (vals : Nat → Value) (H : List Chunk) (listed : Array Bool) (a : Act) (w : World),
    RD P w0 r ops W B fr K n done vals H → Inv ops W B P w0 N fr done vals H listed a w → ∃ n' done' vals', RD P w0 r ops W B fr K n' done' vals' H ∧ Inv ops W B P w0 N fr done' vals' H listed a w ∧ nextQ ops done' = none
  | 0, done, vals, H, listed, a, w, h, _ => h.elim
  | n + 1, done, vals, H, listed, a, w, h, hI => by
    cases hq : nextQ ops done with
    | none => exact ⟨n + 1, done, vals, h, hI, hq⟩
    | some i =>
      have hf := List.find?_some hq
      rw [Bool.and_eq_true] at hf
      simp only [RD, hq] at h
      cases ho : ops[i]? with
      | none => rw [ho] at h; exact h.elim
      | some o =>
        rw [ho] at h
        obtain ⟨v, hv, h⟩ := h
        exact RD.advance hok n _ _ H listed a w h (hI.addQ hok hf.1 hf.2 ho hv)

theorem Stab.get {fr : Fr} {H : List Chunk} {vals : Nat → Value} : ∀ {l : List Nat}, Stab P w0 ops W B fr H vals l → ∀ q ∈ l, ∀ o, ops[q]? = some o → QVg P w0 ops (vw W B fr vals q) H o (vals q)
  | [], _, q, hq, _, _ => by cases hq
  | x :: l, h, q, hq, o, ho => by
    rcases List.mem_cons.1 hq with rfl | hq
    · have := h.1; rw [ho] at this; exact this
    · exact Stab.get h.2 q hq o ho

theorem gslot_tmp {o : Oper} {d : Nat} {b : Bool} (h : gslot ops o = some (d, b)) : d ∈ slotsOf ops o := by
  unfold slotsOf; rw [h]; simp

/-- At an operation that is ready the machine's slots are what it sees. -/
theorem Inv.sees {fr : Fr} {done : List Nat} {vals : Nat → Value} {H : List Chunk} {listed : Array Bool} {a : Act} {w : World} (hok : okDraw ops N W B = true) (h : Inv ops W B P w0 N fr done vals H listed a w) {i : Nat} {o : Oper} (ho : ops[i]? = some o)
    (hnl : listed.getD i false = false) (hd : ∀ j ∈ dirs o, listed.getD j false = true) : ∀ t ∈ slotsOf ops o, a.tmps.getD t undef = vw W B fr vals i t := by
  intro t ht
  have h1 := okDraw_spec hok ho
  rw [h.tmps t]
  unfold vw
  cases hw : wr W t with
  | none => rfl
  | some p =>
    simp only []
    rcases h1.reads t ht p hw with rfl | hb | hb
    · rw [if_neg (by rw [hnl]; simp)]
      cases hc : hasL (befOf B p) p with
      | false => rfl
      | true =>
        have := h.befListed hok ho hd p (hasL_iff.1 hc)
        rw [hnl] at this; cases this
    · rw [if_pos (h.befListed hok ho hd p hb), hasL_iff.2 hb]; rfl
    · have hpl : ¬ listed.getD p false = true := by
        intro hpl
        have hps : p < ops.size := by
          rcases Nat.lt_or_ge p ops.size with h' | h'
          · exact h'
          · rw [Array.getD_eq_getD_getElem?, Array.getElem?_eq_none (by rw [h.size]; exact h')] at hpl; cases hpl
        have hpo : ops[p]? = some ops[p] := Array.getElem?_eq_getElem hps
        have := h.befListed hok hpo (h.closedL p _ hpo hpl) i hb
        rw [hnl] at this; cases this
      rw [if_neg hpl]
      cases hc : hasL (befOf B i) p with
      | false => rfl
      | true =>
        have := h.befListed hok ho hd p (hasL_iff.1 hc)
        exact absurd this hpl

theorem eval_congr {fr : Fr} {a : Act} {o : Oper} (h : ∀ t ∈ slotsOf ops o, a.tmps.getD t undef = fr t) : ∀ x ∈ o.op.operands, a.eval x = ev fr x := by
  intro x hx
  cases x with
  | tmp t =>
    refine h t ?_
    unfold slotsOf
    refine List.mem_append_left _ (List.mem_filterMap.2 ⟨.tmp t, by simpa using hx, rfl⟩)
  | _ => rfl

theorem gd_wanted {fr : Fr} {a : Act} {o : Oper} (hg : Gd ops fr o) (h : ∀ t ∈ slotsOf ops o, a.tmps.getD t undef = fr t) : Region.wanted o (yielded ops a.tmps) = true := by
  cases hg with
  | none hg => simp [Region.wanted, hg]
  | yes hs ht =>
    rename_i d b
    rw [wanted_of (N := a.tmps.size) (fr := fun i => a.tmps.getD i undef) hs ⟨rfl, fun _ => rfl⟩ ((h d (gslot_tmp hs)).trans ht)]
    simp
theorem skip_wanted {fr : Fr} {a : Act} {o : Oper} {d : Nat} {b : Bool} (hs : gslot ops o = some (d, b)) (ht : isNot (fr d) b = true) (h : ∀ t ∈ slotsOf ops o, a.tmps.getD t undef = fr t) : Region.wanted o (yielded ops a.tmps) = false := by
  exact wanted_not (N := a.tmps.size) (fr := fun i => a.tmps.getD i undef) hs ⟨rfl, fun _ => rfl⟩ (by rw [h d (gslot_tmp hs)]; exact ht)

theorem listed_set {listed : Array Bool} {i j : Nat} (hi : i < listed.size) : (listed.setIfInBounds i true).getD j false = if j = i then true else listed.getD j false := by
  simp only [Array.getD_eq_getD_getElem?, Array.getElem?_setIfInBounds]
  by_cases h : j = i
  · subst h; simp [hi]
  · rw [if_neg (fun e => h e.symm), if_neg h]

/-- An operation has been carried out. -/
theorem Inv.list {fr : Fr} {done : List Nat} {vals : Nat → Value} {H : List Chunk} {listed : Array Bool} {a : Act} {w : World} (hok : okDraw ops N W B = true) (hW : okW ops W = true) (h : Inv ops W B P w0 N fr done vals H listed a w) {i : Nat} {o : Oper} (ho : ops[i]? = some o)
    (hd : ∀ j ∈ dirs o, listed.getD j false = true) (hdone : i ∈ done) (w' : World) (hs : Sat w0 w' H) : Inv ops W B P w0 N fr done vals H (listed.setIfInBounds i true) (a.put o.dst (vals i)) w' := by
  have hi : i < ops.size := (Array.getElem?_eq_some_iff.1 ho).1
  have hil : i < listed.size := by rw [h.size]; exact hi
  have hset : ∀ j, (listed.setIfInBounds i true).getD j false = if j = i then true else listed.getD j false := fun j => listed_set hil
  have h1 := okDraw_spec hok ho
  refine ⟨hs, by simpa using h.size, fun j hj hl => ?_, fun j hj hq => ?_, fun q hq hql oq hoq => ?_, ?_, fun t => ?_, fun j oj hoj hl k hk => ?_, h.closedD, h.lt⟩
  · rw [hset] at hl
    split at hl
    · rename_i e; rw [e]; exact hdone
    · exact h.sub j hj hl
  · rw [hset]; split
    · rfl
    · exact h.noisy j hj hq
  · rw [hset] at hql
    split at hql
    · cases hql
    · exact h.pend q hq hql oq hoq
  · cases hdst : o.dst <;> simp [Act.put, h.tsize]
  · have ht := h.tmps t
    have key : (a.put o.dst (vals i)).tmps.getD t undef = if o.dst = some t then vals i else a.tmps.getD t undef := by
      cases hdst : o.dst with
      | none => simp [Act.put]
      | some d =>
        have hdN : d < a.tmps.size := by
          have := h1.dst; rw [hdst] at this; rw [h.tsize]; simpa [dstOK, Nat.blt_eq] using this
        simp only [Act.put, Array.getD_eq_getD_getElem?, Array.getElem?_setIfInBounds, Option.some.injEq]
        by_cases e : d = t
        · subst e; simp [hdN]
        · simp [e]
    rw [key]
    by_cases e : o.dst = some t
    · rw [if_pos e, h1.writer t e]
      simp only []
      rw [hset, if_pos rfl, if_pos rfl]
    · rw [if_neg e, ht]
      cases hw : wr W t with
      | none => rfl
      | some p =>
        simp only []
        rw [hset]
        by_cases hp : p = i
        · exfalso
          subst hp
          -- the table says that p writes t
          have : ∃ x ∈ W, x.1 = t ∧ x.2 = p := by
            unfold wr at hw
            rw [Option.map_eq_some_iff] at hw
            obtain ⟨x, hx, hx2⟩ := hw
            exact ⟨x, List.mem_of_find?_eq_some hx, (Nat.eq_of_beq_eq_true (List.find?_some (p := fun (p : Nat × Nat) => Nat.beq t p.1) hx)).symm, hx2⟩
          obtain ⟨x, hx, hx1, hx2⟩ := this
          have hall := List.all_eq_true.1 hW x hx
          rw [hx2, ho] at hall
          simp only [] at hall
          cases hdst : o.dst with
          | none => rw [hdst] at hall; cases hall
          | some d =>
            rw [hdst] at hall
            exact e (by rw [hdst, Nat.eq_of_beq_eq_true hall, hx1])
        · rw [if_neg hp]
  · rw [hset] at hl ⊢
    split
    · rfl
    · split at hl
      · rename_i e; subst e; rw [ho] at hoj; cases hoj; exact hd k hk
      · exact h.closedL j oj hoj hl k hk

theorem finF_eq (fr : Fr) (vals : Nat → Value) : ∀ (l : List Oper) (i : Nat) (f : Fr) (t : Nat), (∀ (k : Nat) (o : Oper), l[k]? = some o → ∀ d, o.dst = some d → ∀ (k' : Nat) (o' : Oper), l[k']? = some o' → o'.dst = some d → k = k') →
    finF l i vals f t = match (l.zipIdx i).find? (fun x => match x.1.dst with | some d => Nat.beq d t | none => false) with | some x => vals x.2 | none => f t
  | [], i, f, t, _ => rfl
  | o :: l, i, f, t, hu => by
    have hu' : ∀ (k : Nat) (o : Oper), l[k]? = some o → ∀ d, o.dst = some d → ∀ (k' : Nat) (o' : Oper), l[k']? = some o' → o'.dst = some d → k = k' := fun k o' ho d hd k' o'' ho' hd' => by
      have := hu (k + 1) o' (by simpa using ho) d hd (k' + 1) o'' (by simpa using ho') hd'
      omega
    simp only [finF]
    rw [finF_eq fr vals l (i + 1) _ t hu']
    simp only [List.zipIdx_cons, List.find?_cons]
    cases hd : o.dst with
    | none => simp [putF]
    | some d =>
      simp only [putF]
      cases hb : Nat.beq d t with
      | false =>
        simp only []
        have : upd f d (vals i) t = f t := by
          unfold upd
          have hb' : Nat.beq t d = false := by
            cases h : Nat.beq t d with
            | false => rfl
            | true => rw [Nat.eq_of_beq_eq_true h, Nat.beq_refl] at hb; cases hb
          rw [hb']; rfl
        rw [this]
      | true =>
        simp only []
        have ht := Nat.eq_of_beq_eq_true hb
        subst ht
        have hnone : (l.zipIdx (i + 1)).find? (fun x => match x.1.dst with | some d' => Nat.beq d' d | none => false) = none := by
          rw [List.find?_eq_none]
          intro x hx hxd
          obtain ⟨k, hk⟩ := List.mem_iff_getElem?.1 hx
          rw [List.getElem?_zipIdx] at hk
          cases hlk : l[k]? with
          | none => rw [hlk] at hk; cases hk
          | some o' =>
            rw [hlk] at hk
            cases hk
            cases hd' : o'.dst with
            | none => simp [hd'] at hxd
            | some d' =>
              simp only [hd'] at hxd
              have := hu 0 o (by simp) d hd (k + 1) o' (by simpa using hlk) (by rw [hd', Nat.eq_of_beq_eq_true hxd])
              omega
        rw [hnone]
        simp only []
        unfold upd
        rw [Nat.beq_refl]; rfl

theorem fin_rep {fr : Fr} {done : List Nat} {vals : Nat → Value} {H : List Chunk} {listed : Array Bool} {a : Act} {w : World} (hok : okDraw ops N W B = true) (hW : okW ops W = true) (h : Inv ops W B P w0 N fr done vals H listed a w)
    (hall : ∀ i, i < ops.size → listed.getD i false = true) : Rep N (finF ops.toList 0 vals fr) a.tmps := by
  refine ⟨h.tsize, fun t => ?_⟩
  have hwr : ∀ d p, wr W d = some p → ∃ o, ops[p]? = some o ∧ o.dst = some d := by
    intro d p hw
    unfold wr at hw
    rw [Option.map_eq_some_iff] at hw
    obtain ⟨x, hx, hx2⟩ := hw
    have h1 : d = x.1 := Nat.eq_of_beq_eq_true (List.find?_some (p := fun (p : Nat × Nat) => Nat.beq d p.1) hx)
    have h2 := List.all_eq_true.1 hW x (List.mem_of_find?_eq_some hx)
    rw [hx2] at h2
    cases ho : ops[p]? with
    | none => simp [ho] at h2
    | some o =>
      cases hd : o.dst with
      | none => simp [ho, hd] at h2
      | some d' => simp only [ho, hd] at h2; exact ⟨o, rfl, by rw [hd, Nat.eq_of_beq_eq_true h2, h1]⟩
  rw [finF_eq fr vals ops.toList 0 fr t (fun k o ho d hd k' o' ho' hd' => by
    have e1 := (okDraw_spec hok (i := k) (o := o) (by simpa using ho)).writer d hd
    have e2 := (okDraw_spec hok (i := k') (o := o') (by simpa using ho')).writer d hd'
    rw [e1] at e2; cases e2; rfl), h.tmps t]
  cases hw : wr W t with
  | none =>
    simp only []
    cases hf : (ops.toList.zipIdx 0).find? (fun x => match x.1.dst with | some d => Nat.beq d t | none => false) with
    | none => rfl
    | some x =>
      exfalso
      have hxm := List.mem_of_find?_eq_some hf
      have hxd := List.find?_some hf
      obtain ⟨k, hk⟩ := List.mem_iff_getElem?.1 hxm
      rw [List.getElem?_zipIdx] at hk
      cases hlk : ops.toList[k]? with
      | none => rw [hlk] at hk; cases hk
      | some o =>
        rw [hlk] at hk; cases hk
        cases hd : o.dst with
        | none => simp [hd] at hxd
        | some d =>
          simp only [hd] at hxd
          have := (okDraw_spec hok (i := k) (o := o) (by simpa using hlk)).writer d hd
          rw [Nat.eq_of_beq_eq_true hxd, hw] at this
          cases this
  | some p =>
    simp only []
    obtain ⟨o, ho, hd⟩ := hwr t p hw
    have hp : p < ops.size := (Array.getElem?_eq_some_iff.1 ho).1
    rw [if_pos (hall p hp)]
    cases hf : (ops.toList.zipIdx 0).find? (fun x => match x.1.dst with | some d => Nat.beq d t | none => false) with
    | none =>
      exfalso
      rw [List.find?_eq_none] at hf
      have := hf (o, p) (List.mem_iff_getElem?.2 ⟨p, by rw [List.getElem?_zipIdx]; simp [ho]⟩)
      simp [hd] at this
    | some x =>
      simp only []
      have hxm := List.mem_of_find?_eq_some hf
      have hxd := List.find?_some hf
      obtain ⟨k, hk⟩ := List.mem_iff_getElem?.1 hxm
      rw [List.getElem?_zipIdx] at hk
      cases hlk : ops.toList[k]? with
      | none => rw [hlk] at hk; cases hk
      | some o' =>
        rw [hlk] at hk; cases hk
        cases hd' : o'.dst with
        | none => simp [hd'] at hxd
        | some d =>
          simp only [hd'] at hxd
          have e1 := (okDraw_spec hok (i := k) (o := o') (by simpa using hlk)).writer d hd'
          rw [Nat.eq_of_beq_eq_true hxd, hw] at e1
          cases e1
          simp

theorem RD.sound {fr : Fr} {ds : List Deferred} {K : Fr → List Chunk → Prop} {Q : Exit → Act → World → Prop} (hok : okDraw ops N W B = true) (hW : okW ops W = true) (hQ : ∀ a w fr H, Rep N fr a.tmps → Sat w0 w H → a.defers = ds → K fr H → Q .normal a w) :
    ∀ (fuel n : Nat) (done : List Nat) (vals : Nat → Value) (H : List Chunk) (listed : Array Bool) (a : Act) (w : World), RD P w0 r ops W B fr K n done vals H → Inv ops W B P w0 N fr done vals H listed a w → nextQ ops done = none → a.defers = ds →
      ((List.range ops.size).filter fun i => !listed.getD i false).length = fuel → wpAnyIn (Fw r) 0 P .any ops Q fuel listed a w := by
  have hready : ∀ (listed : Array Bool), listed.size = ops.size → ∀ i, i ∈ Region.ready .any ops listed ↔ i < ops.size ∧ listed.getD i false = false ∧ ∃ o, ops[i]? = some o ∧ ∀ j ∈ dirs o, listed.getD j false = true := by
    intro listed hsz i
    unfold Region.ready
    rw [List.mem_filter, List.mem_range]
    constructor
    · rintro ⟨hi, h⟩
      have hio : ops[i]? = some ops[i] := Array.getElem?_eq_getElem hi
      rw [Bool.and_eq_true, hio] at h
      have h2 := h.2
      simp only [Option.map_some, Option.getD_some] at h2
      refine ⟨hi, ?_, _, hio, fun j hj => ?_⟩
      · have h1 := h.1
        have hil : i < listed.size := by rw [hsz]; exact hi
        simp only [Array.getD_eq_getD_getElem?, Array.getElem?_eq_getElem hil, Option.getD_some] at h1 ⊢
        simpa using h1
      · unfold dirs at hj
        rw [List.mem_map] at hj
        obtain ⟨e, he, rfl⟩ := hj
        rw [List.mem_filter] at he
        have := Array.all_eq_true_iff_forall_mem.1 h2 e (by simpa using he.1)
        rw [he.2] at this
        simpa using this
    · rintro ⟨hi, hl, o, ho, hd⟩
      refine ⟨hi, ?_⟩
      rw [Bool.and_eq_true, ho]
      refine ⟨?_, ?_⟩
      · have hil : i < listed.size := by rw [hsz]; exact hi
        simp only [Array.getD_eq_getD_getElem?, Array.getElem?_eq_getElem hil, Option.getD_some] at hl ⊢
        simpa using hl
      · simp only [Option.map_some, Option.getD_some]
        rw [Array.all_eq_true_iff_forall_mem]
        intro e he
        cases hb : Region.binds .any e with
        | false => rfl
        | true =>
          simp only [Bool.not_true, Bool.false_or]
          exact hd e.on (by unfold dirs; exact List.mem_map.2 ⟨e, List.mem_filter.2 ⟨by simpa using he, hb⟩, rfl⟩)
  -- nothing is ready only where all has been carried out
  have hfin : ∀ (listed : Array Bool), listed.size = ops.size → Region.ready .any ops listed = [] → ∀ i, i < ops.size → listed.getD i false = true := by
    intro listed hsz hr i
    induction i using Nat.strongRecOn with
    | _ i ih =>
      intro hi
      cases hl : listed.getD i false with
      | true => rfl
      | false =>
        exfalso
        have hio : ops[i]? = some ops[i] := Array.getElem?_eq_getElem hi
        have : i ∈ Region.ready .any ops listed := (hready listed hsz i).2 ⟨hi, hl, _, hio, fun j hj => ih j ((okDraw_spec hok hio).back j hj) (Nat.lt_trans ((okDraw_spec hok hio).back j hj) hi)⟩
        rw [hr] at this; cases this
  have hend : ∀ (n : Nat) (done : List Nat) (vals : Nat → Value) (H : List Chunk) (listed : Array Bool) (a : Act) (w : World), RD P w0 r ops W B fr K n done vals H → Inv ops W B P w0 N fr done vals H listed a w → nextQ ops done = none → a.defers = ds →
      (∀ i, i < ops.size → listed.getD i false = true) → Q .normal a w := by
    intro n done vals H listed a w h hI hq had hall
    cases n with
    | zero => exact h.elim
    | succ n =>
      have hn : readyN ops done = [] := by
        unfold readyN
        rw [List.filter_eq_nil_iff]
        intro i hi hr
        rw [List.mem_range] at hi
        exact (rdy_iff.1 hr).1 (hI.sub i hi (hall i hi))
      simp only [RD, hq, hn] at h
      exact hQ a w _ H (fin_rep hok hW hI hall) hI.sat had h
  intro fuel
  induction fuel with
  | zero =>
    intro n done vals H listed a w h hI hq had hc
    have hall : ∀ i, i < ops.size → listed.getD i false = true := by
      intro i hi
      cases hl : listed.getD i false with
      | true => rfl
      | false =>
        have : i ∈ (List.range ops.size).filter fun i => !listed.getD i false := List.mem_filter.2 ⟨List.mem_range.2 hi, by rw [hl]; rfl⟩
        rw [List.eq_nil_of_length_eq_zero hc] at this; cases this
    refine ⟨?_, hend n done vals H listed a w h hI hq had hall⟩
    apply List.eq_nil_iff_forall_not_mem.2
    intro i hi
    have := (hready listed hI.size i).1 hi
    rw [hall i this.1] at this
    exact absurd this.2.1 (by simp)
  | succ fuel ih =>
    intro n done vals H listed a w h hI hq had hc
    refine ⟨fun hr => hend n done vals H listed a w h hI hq had (hfin listed hI.size hr), fun i hi => ?_⟩
    obtain ⟨hi, hnl, o, ho, hd⟩ := (hready listed hI.size i).1 hi
    have h1 := okDraw_spec hok ho
    have hsees := hI.sees hok ho hnl hd
    have hcount : ((List.range ops.size).filter fun j => !(listed.setIfInBounds i true).getD j false).length = fuel := by
      have hil : i < listed.size := by rw [hI.size]; exact hi
      have e1 : ((List.range ops.size).filter fun j => !(listed.setIfInBounds i true).getD j false) = ((List.range ops.size).filter fun j => !listed.getD j false).erase i := by
        rw [List.Nodup.erase_eq_filter (List.Pairwise.filter _ List.nodup_range), List.filter_filter]
        apply List.filter_congr
        intro j _
        rw [listed_set hil]
        by_cases e : j = i
        · subst e; simp
        · simp [e]
      rw [e1, List.length_erase_of_mem (List.mem_filter.2 ⟨List.mem_range.2 hi, by rw [hnl]; rfl⟩), hc]
      rfl
    unfold wpOpIn
    simp only [ho]
    have hdD : ∀ j ∈ dirs o, j ∈ done := fun j hj => hI.sub j (Nat.lt_trans (h1.back j hj) hi) (hd j hj)
    by_cases hqi : isQ ops i = true
    · -- a quiet one: it has been told
      have hdn : i ∈ done := by
        rcases Classical.em (i ∈ done) with h' | h'
        · exact h'
        · have := nextQ_none hq hi (rdy_iff.2 ⟨h', o, ho, hdD⟩)
          rw [hqi] at this; cases this
      have hv := hI.pend i hdn hnl o ho
      cases hv with
      | plain hg hv =>
        rw [if_pos (gd_wanted hg hsees)]
        refine ⟨fun _ _ => trivial, ?_⟩
        rw [Oper.semAt_eq _ _ _ h1.nodef, execOp_congr o h1.nosel (eval_congr hsees), hv w hI.sat]
        exact ih n done vals H _ _ w h (hI.list hok hW ho hd hdn w hI.sat) hq (by cases o.dst <;> exact had) hcount
      | skip hs ht hu =>
        rw [if_neg (by rw [skip_wanted hs ht hsees]; simp)]
        have := ih n done vals H _ _ w h (hI.list hok hW ho hd hdn w hI.sat) hq (by cases o.dst <;> exact had) hcount
        rw [hu] at this
        exact ⟨fun _ _ => trivial, this⟩
    · -- another one: it is the next
      have hqi' : isQ ops i = false := by simpa using hqi
      have hdn : i ∉ done := fun hdn => by have := hI.noisy i hdn hqi'; rw [hnl] at this; cases this
      have hri : rdy ops done i = true := rdy_iff.2 ⟨hdn, o, ho, hdD⟩
      cases n with
      | zero => exact h.elim
      | succ n =>
        have hmem : i ∈ readyN ops done := List.mem_filter.2 ⟨List.mem_range.2 hi, hri⟩
        have h : RD1 P w0 r ops W B fr K n done vals H i := by
          simp only [RD, hq] at h
          cases hl : readyN ops done with
          | nil => rw [hl] at hmem; cases hmem
          | cons x l => rw [hl] at h hmem; exact h i hmem
        simp only [RD1, ho] at h
        have hdone2 : ∀ (v : Value) (H' : List Chunk) (w' : World), Sat w0 w' H' → Stab P w0 ops W B fr H' (updv vals i v) (pend ops B done i) → Inv ops W B P w0 N fr (i :: done) (updv vals i v) H' (listed.setIfInBounds i true) (a.put o.dst v) w' := by
          intro v H' w' hs hst
          have hil : i < listed.size := by rw [hI.size]; exact hi
          have hset : ∀ j, (listed.setIfInBounds i true).getD j false = if j = i then true else listed.getD j false := fun j => listed_set hil
          have hI2 : Inv ops W B P w0 N fr (i :: done) (updv vals i v) H' (listed.setIfInBounds i true) (a.put o.dst (updv vals i v i)) w' := by
            have hI0 : Inv ops W B P w0 N fr done (updv vals i v) H' listed a w' := by
              refine ⟨hs, hI.size, hI.sub, hI.noisy, fun q hqd hql oq hoq => ?_, hI.tsize, fun t => ?_, hI.closedL, hI.closedD, hI.lt⟩
              · have hqq : isQ ops q = true := by
                  cases hc : isQ ops q with
                  | true => rfl
                  | false => have := hI.noisy q hqd hc; rw [hql] at this; cases this
                refine hst.get q ?_ oq hoq
                unfold pend
                rw [List.mem_filter, Bool.and_eq_true]
                refine ⟨hqd, hqq, ?_⟩
                cases hc : hasL (befOf B i) q with
                | false => rfl
                | true => have := hI.befListed hok ho hd q (hasL_iff.1 hc); rw [hql] at this; cases this
              · rw [hI.tmps t]
                cases hw : wr W t with
                | none => rfl
                | some p =>
                  simp only []
                  by_cases hp : listed.getD p false = true
                  · rw [if_pos hp, if_pos hp, updv_ne (fun e => by rw [e, hnl] at hp; cases hp)]
                  · rw [if_neg hp, if_neg hp]
            -- tell it and carry it out at once
            have hI1 : Inv ops W B P w0 N fr (i :: done) (updv vals i v) H' (listed.setIfInBounds i true) (a.put o.dst (updv vals i v i)) w' := by
              have hput := hI0
              refine ⟨hs, by simpa using hI.size, fun j hj hl => ?_, fun j hj hjq => ?_, fun q hqd hql oq hoq => ?_, ?_, fun t => ?_, fun j oj hoj hl k hk => ?_, fun j oj hoj hjd k hk => ?_, fun j hj => ?_⟩
              · rw [hset] at hl
                split at hl
                · rename_i e; rw [e]; exact List.mem_cons_self
                · exact List.mem_cons_of_mem _ (hI.sub j hj hl)
              · rw [hset]
                split
                · rfl
                · rename_i e
                  rcases List.mem_cons.1 hj with h' | h'
                  · exact absurd h' e
                  · exact hI.noisy j h' hjq
              · rw [hset] at hql
                split at hql
                · cases hql
                · rename_i e
                  rcases List.mem_cons.1 hqd with h' | h'
                  · exact absurd h' e
                  · exact hI0.pend q h' hql oq hoq
              · cases hdst : o.dst <;> simp [Act.put, hI.tsize]
              · have key : (a.put o.dst (updv vals i v i)).tmps.getD t undef = if o.dst = some t then updv vals i v i else a.tmps.getD t undef := by
                  cases hdst : o.dst with
                  | none => simp [Act.put]
                  | some d =>
                    have hdN : d < a.tmps.size := by
                      have := h1.dst; rw [hdst] at this; rw [hI.tsize]; simpa [dstOK, Nat.blt_eq] using this
                    simp only [Act.put, Array.getD_eq_getD_getElem?, Array.getElem?_setIfInBounds, Option.some.injEq]
                    by_cases e : d = t
                    · subst e; simp [hdN]
                    · simp [e]
                rw [key]
                by_cases e : o.dst = some t
                · rw [if_pos e, h1.writer t e]
                  simp only []
                  rw [hset, if_pos rfl, if_pos rfl]
                · rw [if_neg e, hI0.tmps t]
                  cases hw : wr W t with
                  | none => rfl
                  | some p =>
                    simp only []
                    rw [hset]
                    by_cases hp : p = i
                    · exfalso
                      subst hp
                      unfold wr at hw
                      rw [Option.map_eq_some_iff] at hw
                      obtain ⟨x, hx, hx2⟩ := hw
                      have hx1 : t = x.1 := Nat.eq_of_beq_eq_true (List.find?_some (p := fun (p : Nat × Nat) => Nat.beq t p.1) hx)
                      have hall := List.all_eq_true.1 hW x (List.mem_of_find?_eq_some hx)
                      rw [hx2, ho] at hall
                      simp only [] at hall
                      cases hdst : o.dst with
                      | none => rw [hdst] at hall; cases hall
                      | some d =>
                        rw [hdst] at hall
                        exact e (by rw [hdst, Nat.eq_of_beq_eq_true hall, hx1])
                    · rw [if_neg hp]
              · rw [hset] at hl ⊢
                split
                · rfl
                · split at hl
                  · rename_i e; subst e; rw [ho] at hoj; cases hoj; exact hd k hk
                  · exact hI.closedL j oj hoj hl k hk
              · rcases List.mem_cons.1 hjd with rfl | hjd
                · rw [ho] at hoj; cases hoj; exact List.mem_cons_of_mem _ (hdD k hk)
                · exact List.mem_cons_of_mem _ (hI.closedD j oj hoj hjd k hk)
              · rcases List.mem_cons.1 hj with rfl | hj
                · exact hi
                · exact hI.lt j hj
            exact hI1
          rw [updv_eq] at hI2
          exact hI2
        have hgo : ∀ (v : Value) (H' : List Chunk) (w' : World), Stab P w0 ops W B fr H' (updv vals i v) (pend ops B done i) → RD P w0 r ops W B fr K n (i :: done) (updv vals i v) H' → Sat w0 w' H' → wpAnyIn (Fw r) 0 P .any ops Q fuel (listed.setIfInBounds i true) (a.put o.dst v) w' := by
          intro v H' w' hst hrd hs
          have hI' := hdone2 v H' w' hs hst
          obtain ⟨n', done', vals', h', hI'', hq'⟩ := RD.advance hok n _ _ _ _ _ _ hrd hI'
          exact ih n' done' vals' H' _ _ w' h' hI'' hq' (by cases o.dst <;> exact had) hcount
        cases h with
        | plain hg hv =>
          rw [if_pos (gd_wanted hg hsees)]
          refine ⟨fun _ _ => trivial, ?_⟩
          have hu := hv.2 w hI.sat
          rw [Oper.semAt_eq _ _ _ h1.nodef, execOp_congr o h1.nosel (eval_congr hsees)]
          cases hx : (execOp (ev (vw W B fr vals i)) o).run P w with
          | halt x w' => rw [hx] at hu; exact hu.elim
          | ok nx w' =>
            rw [hx] at hu
            cases nx <;> first
              | exact hu.elim
              | (obtain ⟨H', s, q1, q2⟩ := hu; exact hgo _ _ _ q1 q2 s)
              | skip
            · refine ⟨fun hn => by simp [Fw] at hn, ?_⟩
              have hc2 : CallsIn (Fw none) 0 P _ _ w' _ := callsIn_wide.2 hu
              refine CallsIn.mono (F := Fw r) (n := 0) hc2 ?_
              rintro e w'' ⟨v, H', rfl, s, q1, q2⟩
              exact hgo _ _ _ q1 q2 s
            · refine ⟨fun hn => by simp [Fw] at hn, ?_⟩
              refine RoundIn.mono hu ?_
              rintro e w'' ⟨v, H', rfl, s, q1, q2⟩
              exact hgo _ _ _ q1 q2 s
        | skip hs ht hu =>
          rw [if_neg (by rw [skip_wanted hs ht hsees]; simp)]
          exact ⟨fun _ _ => trivial, hgo _ _ _ hu.1 hu.2 hI.sat⟩

/-- A statement whose order is open. -/
theorem SW.draw {id : Nat} {fr : Fr} {ds : List Deferred} {H : List Chunk} {Q : Post} (W : List (Nat × Nat)) (B : List (List Nat)) (hm : P.follows .mixedOrders = true) (hok : okDraw ops N W B = true) (hW : okW ops W = true)
    (h : RD P w0 r ops W B fr (fun fr' H' => Q .normal fr' ds H') (ops.size + 1) [] (fun _ => undef) H) : SW P w0 N r (.region id ops true) fr ds H Q := by
  intro tmps w hr hs
  refine wpIn_region_any hm ?_
  have hI : Inv ops W B P w0 N fr [] (fun _ => undef) H (Array.replicate ops.size false) ⟨tmps, ds⟩ w.drew := by
    have hl : ∀ i, (Array.replicate ops.size false).getD i false = false := by
      intro i
      rw [Array.getD_eq_getD_getElem?, Array.getElem?_replicate]
      split <;> rfl
    refine ⟨hs.drew, by simp, fun i _ h => (by rw [hl] at h; cases h), fun i h => (by cases h), fun i h => (by cases h), hr.size, fun t => ?_, fun i o _ h => (by rw [hl] at h; cases h), fun i o _ h => (by cases h), fun i h => (by cases h)⟩
    cases hw : wr W t with
    | none => exact hr.get t
    | some p => simp only []; rw [if_neg (by rw [hl]; simp)]; exact hr.get t
  obtain ⟨n', done', vals', h', hI', hq'⟩ := RD.advance hok _ _ _ _ _ _ _ h hI
  refine RD.sound (ds := ds) (K := fun fr' H' => Q .normal fr' ds H') hok hW (fun a w fr H h1 h2 h3 h4 => ⟨fr, H, h1, h2, by rw [h3]; exact h4⟩) ops.size n' done' vals' H _ _ _ h' hI' hq' rfl ?_
  have : ((List.range ops.size).filter fun i => !(Array.replicate ops.size false).getD i false) = List.range ops.size := by
    rw [List.filter_eq_self]
    intro i _
    rw [Array.getD_eq_getD_getElem?, Array.getElem?_replicate]
    split <;> rfl
  rw [this, List.length_range]

theorem RD.q {fr : Fr} {K : Fr → List Chunk → Prop} {n i : Nat} {done : List Nat} {vals : Nat → Value} {H : List Chunk} {o : Oper} {v : Value} (hq : nextQ ops done = some i) (ho : ops[i]? = some o) (hg : Gd ops (vw W B fr vals i) o) (hv : QV P w0 (vw W B fr vals i) H o v)
    (h : RD P w0 r ops W B fr K n (i :: done) (updv vals i v) H) : RD P w0 r ops W B fr K (n + 1) done vals H := by
  simp only [RD, hq, ho]; exact ⟨v, .plain hg hv, h⟩
theorem RD.skip {fr : Fr} {K : Fr → List Chunk → Prop} {n i : Nat} {done : List Nat} {vals : Nat → Value} {H : List Chunk} {o : Oper} {d : Nat} {b : Bool} (hq : nextQ ops done = some i) (ho : ops[i]? = some o) (hs : gslot ops o = some (d, b)) (ht : isNot (vw W B fr vals i d) b = true)
    (h : RD P w0 r ops W B fr K n (i :: done) (updv vals i undef) H) : RD P w0 r ops W B fr K (n + 1) done vals H := by
  simp only [RD, hq, ho]; exact ⟨undef, .skip hs ht rfl, h⟩
inductive All1 (p : Nat → Prop) : List Nat → Prop
  | nil : All1 p []
  | cons {i : Nat} {l : List Nat} (h : p i) (hl : All1 p l) : All1 p (i :: l)
theorem All1.get {p : Nat → Prop} : ∀ {l : List Nat}, All1 p l → ∀ i ∈ l, p i
  | _, .nil, _, h => by cases h
  | _, .cons h hl, i, hi => by
    rcases List.mem_cons.1 hi with rfl | hi
    · exact h
    · exact hl.get i hi
theorem RD.many {fr : Fr} {K : Fr → List Chunk → Prop} {n i : Nat} {done : List Nat} {vals : Nat → Value} {H : List Chunk} {l : List Nat} (hq : nextQ ops done = none) (hn : readyN ops done = i :: l) (h : All1 (RD1 P w0 r ops W B fr K n done vals H) (i :: l)) : RD P w0 r ops W B fr K (n + 1) done vals H := by
  simp only [RD, hq, hn]; exact fun i hi => h.get i hi
theorem RD1.nv {fr : Fr} {K : Fr → List Chunk → Prop} {n i : Nat} {done : List Nat} {vals : Nat → Value} {H : List Chunk} {o : Oper} (ho : ops[i]? = some o) (hg : Gd ops (vw W B fr vals i) o)
    (h : NV P w0 r (vw W B fr vals i) H o fun v H' => Stab P w0 ops W B fr H' (updv vals i v) (pend ops B done i) ∧ RD P w0 r ops W B fr K n (i :: done) (updv vals i v) H') : RD1 P w0 r ops W B fr K n done vals H i := by
  simp only [RD1, ho]; exact .plain hg h
theorem RD1.skip {fr : Fr} {K : Fr → List Chunk → Prop} {n i : Nat} {done : List Nat} {vals : Nat → Value} {H : List Chunk} {o : Oper} {d : Nat} {b : Bool} (ho : ops[i]? = some o) (hs : gslot ops o = some (d, b)) (ht : isNot (vw W B fr vals i d) b = true)
    (h1 : Stab P w0 ops W B fr H (updv vals i undef) (pend ops B done i)) (h : RD P w0 r ops W B fr K n (i :: done) (updv vals i undef) H) : RD1 P w0 r ops W B fr K n done vals H i := by
  simp only [RD1, ho]; exact .skip hs ht ⟨h1, h⟩
theorem RD.nv {fr : Fr} {K : Fr → List Chunk → Prop} {n i : Nat} {done : List Nat} {vals : Nat → Value} {H : List Chunk} {o : Oper} (hq : nextQ ops done = none) (hn : readyN ops done = [i]) (ho : ops[i]? = some o) (hg : Gd ops (vw W B fr vals i) o)
    (h : NV P w0 r (vw W B fr vals i) H o fun v H' => Stab P w0 ops W B fr H' (updv vals i v) (pend ops B done i) ∧ RD P w0 r ops W B fr K n (i :: done) (updv vals i v) H') : RD P w0 r ops W B fr K (n + 1) done vals H :=
  RD.many hq hn (.cons (RD1.nv ho hg h) .nil)
theorem RD.skipN {fr : Fr} {K : Fr → List Chunk → Prop} {n i : Nat} {done : List Nat} {vals : Nat → Value} {H : List Chunk} {o : Oper} {d : Nat} {b : Bool} (hq : nextQ ops done = none) (hn : readyN ops done = [i]) (ho : ops[i]? = some o) (hs : gslot ops o = some (d, b)) (ht : isNot (vw W B fr vals i d) b = true)
    (h1 : Stab P w0 ops W B fr H (updv vals i undef) (pend ops B done i)) (h : RD P w0 r ops W B fr K n (i :: done) (updv vals i undef) H) : RD P w0 r ops W B fr K (n + 1) done vals H :=
  RD.many hq hn (.cons (RD1.skip ho hs ht h1 h) .nil)
theorem RD.k {fr : Fr} {K : Fr → List Chunk → Prop} {n : Nat} {done : List Nat} {vals : Nat → Value} {H : List Chunk} (hq : nextQ ops done = none) (hn : readyN ops done = []) (h : K (finF ops.toList 0 vals fr) H) : RD P w0 r ops W B fr K (n + 1) done vals H := by
  simp only [RD, hq, hn]; exact h
/-- One road on behind the statement, for all its orders. -/
theorem RD.share {fr : Fr} {K : Fr → List Chunk → Prop} {n : Nat} {done : List Nat} {vals : Nat → Value} {H : List Chunk} (F : Nat → Fr) (G : Nat → List Chunk)
    (h1 : (∀ b, K (F b) (G b)) → RD P w0 r ops W B fr K n done vals H) (h2 : ∀ b, K (F b) (G b)) : RD P w0 r ops W B fr K n done vals H := h1 h2
theorem RD.share2 {fr : Fr} {K : Fr → List Chunk → Prop} {n : Nat} {done : List Nat} {vals : Nat → Value} {H : List Chunk} (F : Nat → Nat → Fr) (G : Nat → Nat → List Chunk)
    (h1 : (∀ b c, K (F b c) (G b c)) → RD P w0 r ops W B fr K n done vals H) (h2 : ∀ b c, K (F b c) (G b c)) : RD P w0 r ops W B fr K n done vals H := h1 h2
theorem RD.share3 {fr : Fr} {K : Fr → List Chunk → Prop} {n : Nat} {done : List Nat} {vals : Nat → Value} {H : List Chunk} (F : Nat → Nat → Nat → Fr) (G : Nat → Nat → Nat → List Chunk)
    (h1 : (∀ b c e, K (F b c e) (G b c e)) → RD P w0 r ops W B fr K n done vals H) (h2 : ∀ b c e, K (F b c e) (G b c e)) : RD P w0 r ops W B fr K n done vals H := h1 h2
theorem RD.split {fr : Fr} {K : Fr → List Chunk → Prop} {n : Nat} {done : List Nat} {vals : Nat → Value} {H : List Chunk} (j : Nat) {t : Bool} (hj : vals j = .bool t) (h1 : t = true → RD P w0 r ops W B fr K n done (updv vals j (.bool true)) H) (h2 : t = false → RD P w0 r ops W B fr K n done (updv vals j (.bool false)) H) : RD P w0 r ops W B fr K n done vals H := by
  have key : ∀ b : Bool, vals j = .bool b → updv vals j (.bool b) = vals := by
    intro b hb
    funext i
    unfold updv
    cases h : Nat.beq i j with
    | false => rfl
    | true => rw [Nat.eq_of_beq_eq_true h, hb]; rfl
  cases t with
  | true => have := h1 rfl; rwa [key true hj] at this
  | false => have := h2 rfl; rwa [key false hj] at this
theorem Stab.nil {fr : Fr} {H : List Chunk} {vals : Nat → Value} : Stab P w0 ops W B fr H vals [] := trivial
theorem Stab.cons {fr : Fr} {H : List Chunk} {vals : Nat → Value} {q : Nat} {l : List Nat} {o : Oper} (ho : ops[q]? = some o) (hg : Gd ops (vw W B fr vals q) o) (hv : QV P w0 (vw W B fr vals q) H o (vals q)) (h : Stab P w0 ops W B fr H vals l) : Stab P w0 ops W B fr H vals (q :: l) := by
  refine ⟨?_, h⟩; rw [ho]; exact .plain hg hv
theorem Stab.skip {fr : Fr} {H : List Chunk} {vals : Nat → Value} {q : Nat} {l : List Nat} {o : Oper} {d : Nat} {b : Bool} (ho : ops[q]? = some o) (hs : gslot ops o = some (d, b)) (ht : isNot (vw W B fr vals q d) b = true) (hu : vals q = undef) (h : Stab P w0 ops W B fr H vals l) : Stab P w0 ops W B fr H vals (q :: l) := by
  refine ⟨?_, h⟩; rw [ho]; exact .skip hs ht hu
end
end Go.Sep
