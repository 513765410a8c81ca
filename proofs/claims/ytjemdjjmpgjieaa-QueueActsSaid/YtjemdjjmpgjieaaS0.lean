import Derived.CallsIn
import Derived.OrdersIn
import Derived.LoopIn
import Derived.Below
import Derived.Laws.AppendOwn
set_option linter.unusedVariables false
set_option linter.unusedSimpArgs false
/- The ground of the proofs of this claim: what is held of memory as a list of pieces, and what code does to it. Plain definitions and their laws, over any program. -/
namespace Go.Sep
open Go Go.RowKit

/-- A frame's slots as a function. -/
abbrev Fr := Nat → Value
def upd (fr : Fr) (d : Nat) (v : Value) : Fr := fun t => cond (Nat.beq t d) v (fr t)
def putF (fr : Fr) : Option Tmp → Value → Fr
  | some d, v => upd fr d v
  | none, _ => fr
def ev (fr : Fr) : Operand → Value
  | .tmp t => fr t
  | .const v => v
  | .global g => .pointer (some ⟨g, 0, none⟩)
  | .func f => .func (.func f) #[] #[]

theorem upd_self (fr : Fr) (d : Nat) (v : Value) (h : fr d = v) : upd fr d v = fr := by
  funext t
  unfold upd
  cases hb : Nat.beq t d with
  | false => rfl
  | true => have := Nat.eq_of_beq_eq_true hb; subst this; simp [h]

/-- The slots that a function tells. -/
structure Rep (N : Nat) (fr : Fr) (tmps : Array Value) : Prop where
  size : tmps.size = N
  get : ∀ i, tmps.getD i undef = fr i

theorem Rep.eval {N : Nat} {fr : Fr} {a : Act} (h : Rep N fr a.tmps) : a.eval = ev fr := by
  funext x
  cases x <;> simp [Act.eval, ev, h.get]

def dstOK (N : Nat) : Option Tmp → Bool
  | some d => Nat.blt d N
  | none => true

theorem Rep.put {N : Nat} {fr : Fr} {a : Act} (h : Rep N fr a.tmps) {d : Option Tmp} (hd : dstOK N d = true) (v : Value) : Rep N (putF fr d v) (a.put d v).tmps := by
  cases d with
  | none => exact h
  | some d =>
    refine ⟨by simp [Act.put, h.size], fun i => ?_⟩
    have hlt : d < N := by simpa [dstOK, Nat.blt_eq] using hd
    simp only [Act.put, putF, upd]
    by_cases he : i = d
    · subst he
      have : i < a.tmps.size := by rw [h.size]; exact hlt
      simp [Array.getD_eq_getD_getElem?, this]
    · have hb : Nat.beq i d = false := by
        cases hb : Nat.beq i d with
        | false => rfl
        | true => exact absurd (Nat.eq_of_beq_eq_true hb) he
      rw [hb]
      simp only [cond]
      rw [← h.get i]
      simp [Array.getD_eq_getD_getElem?, Ne.symm he]

/-- What is held of memory: a variable's block, or a slice of the call's own with what lies in it. -/
inductive Chunk where
  | var (b : Nat) (t : TypeId) (cells : List Value)
  | row (a : Option Addr) (n c : Nat) (e : TypeId) (size : Nat) (xs : List Value)
  | obj (b : Nat) (o : Obj)

def Chunk.block : Chunk → Option Nat
  | .var b _ _ => some b
  | .row a _ _ _ _ _ => a.map (·.block)
  | .obj b _ => some b

def Chunk.holds (B : Nat) (w : World) : Chunk → Prop
  | .var b t cs => B ≤ b ∧ w.heap[b]? = some (.cells cs.toArray t (0, 0))
  | .row a n c e size xs => w.ownsRow B e size (.slice a n c) n xs
  | .obj b o => B ≤ b ∧ w.heap[b]? = some o ∧ (∀ cs t, o ≠ .cells cs t (0, 0))

/-- Two pieces lie apart. -/
def Chunk.apart (c d : Chunk) : Prop := ∀ b, c.block = some b → d.block ≠ some b

theorem Chunk.apart.symm {c d : Chunk} (h : c.apart d) : d.apart c := fun b hd hc => h b hc hd

structure Sat (w0 w : World) (H : List Chunk) : Prop where
  below : Below w0.heap.size w0 w
  holds : ∀ c ∈ H, c.holds w0.heap.size w
  apart : H.Pairwise Chunk.apart
  drawn : w0.drawn ≤ w.drawn

theorem Sat.start (w0 : World) : Sat w0 w0 [] := ⟨.refl _ _, fun _ h => by simp at h, .nil, Nat.le_refl _⟩
theorem Sat.tail {w0 w : World} {c : Chunk} {H : List Chunk} (h : Sat w0 w (c :: H)) : Sat w0 w H :=
  ⟨h.below, fun d hd => h.holds d (List.mem_cons_of_mem _ hd), (List.pairwise_cons.1 h.apart).2, h.drawn⟩
theorem Sat.drew {w0 w : World} {H : List Chunk} (h : Sat w0 w H) : Sat w0 w.drew H := by
  refine ⟨h.below.drew, fun c hc => ?_, h.apart, Nat.le_trans h.drawn (Nat.le_succ _)⟩
  have := h.holds c hc
  cases c <;> exact this

theorem pairwise_perm {α : Type} {R : α → α → Prop} (hs : ∀ a b, R a b → R b a) {l l' : List α} (p : l.Perm l') (h : l.Pairwise R) : l'.Pairwise R := by
  induction p with
  | nil => exact .nil
  | cons x _ ih =>
    rw [List.pairwise_cons] at *
    rename_i l1 l2 p
    exact ⟨fun a ha => h.1 a (p.mem_iff.2 ha), ih h.2⟩
  | swap x y l =>
    rw [List.pairwise_cons, List.pairwise_cons] at *
    obtain ⟨h1, h2, h3⟩ := h
    exact ⟨fun a ha => by
      rcases List.mem_cons.1 ha with rfl | ha
      · exact hs _ _ (h1 _ (by simp))
      · exact h2 a ha, fun a ha => h1 a (by simp [ha]), h3⟩
  | trans _ _ ih1 ih2 => exact ih2 (ih1 h)

theorem Sat.perm {w0 w : World} {H H' : List Chunk} (h : Sat w0 w H) (p : H.Perm H') : Sat w0 w H' :=
  ⟨h.below, fun c hc => h.holds c (p.mem_iff.2 hc), pairwise_perm (fun _ _ => Chunk.apart.symm) p h.apart, h.drawn⟩

/-- 'c' stands in H; 'k d' is H with d in its place. -/
inductive At : List Chunk → Chunk → (Chunk → List Chunk) → Prop
  | head (c : Chunk) (H : List Chunk) : At (c :: H) c (fun d => d :: H)
  | tail {c d : Chunk} {H : List Chunk} {k : Chunk → List Chunk} (h : At H c k) : At (d :: H) c (fun x => d :: k x)

theorem At.mem {H : List Chunk} {c : Chunk} {k : Chunk → List Chunk} (h : At H c k) : c ∈ H := by
  induction h with
  | head => simp
  | tail _ ih => simp [ih]
theorem At.perm {H : List Chunk} {c : Chunk} {k : Chunk → List Chunk} (h : At H c k) : ∃ R, H.Perm (c :: R) ∧ ∀ d, (k d).Perm (d :: R) := by
  induction h with
  | head c H => exact ⟨H, .refl _, fun d => .refl _⟩
  | tail _ ih =>
    rename_i c d H k _
    obtain ⟨R, h1, h2⟩ := ih
    exact ⟨d :: R, (h1.cons d).trans (.swap _ _ _), fun x => ((h2 x).cons d).trans (.swap _ _ _)⟩
theorem At.put {H : List Chunk} {c : Chunk} {k : Chunk → List Chunk} (h : At H c k) (d : Chunk) : At (k d) d k := by
  induction h with
  | head c H => exact .head d H
  | tail _ ih => exact .tail ih

/-- One piece is turned into another, in a world that differs at most at the old piece's block and at new ones. -/
theorem Sat.turn {w0 w w' : World} {H : List Chunk} {c d : Chunk} {k : Chunk → List Chunk} (h : Sat w0 w H) (hat : At H c k)
    (hw : Below w0.heap.size w w') (hkeep : ∀ b, b < w.heap.size → c.block ≠ some b → w'.heap[b]? = w.heap[b]?)
    (hd : d.holds w0.heap.size w') (hblk : ∀ b, d.block = some b → c.block = some b ∨ w.heap.size ≤ b) (hdr : w.drawn ≤ w'.drawn := by first | assumption | exact Nat.le_refl _ | exact Nat.le_succ _ | exact Nat.le_add_right _ _) : Sat w0 w' (k d) := by
  obtain ⟨R, p1, p2⟩ := hat.perm
  have h1 := h.perm p1
  refine Sat.perm (H := d :: R) ?_ (p2 d).symm
  have hp := List.pairwise_cons.1 h1.apart
  have hlt : ∀ x : Chunk, x.holds w0.heap.size w → ∀ b, x.block = some b → b < w.heap.size := by
    intro x hx b hb
    cases x with
    | var b' t cs => cases hb; exact (Array.getElem?_eq_some_iff.1 hx.2).1
    | obj b' o => cases hb; exact (Array.getElem?_eq_some_iff.1 hx.2.1).1
    | row a n c e size xs =>
      cases a with
      | none => cases hb
      | some a => cases hb; exact (World.ownsRow.lt hx _ rfl).2
  refine ⟨h.below.trans hw, fun x hx => ?_, List.pairwise_cons.2 ⟨fun x hx b hb hxb => ?_, hp.2⟩, Nat.le_trans h.drawn hdr⟩
  · rcases List.mem_cons.1 hx with rfl | hx
    · exact hd
    · have hxh := h1.holds x (List.mem_cons_of_mem _ hx)
      have hne := hp.1 x hx
      have hb : ∀ b, x.block = some b → w'.heap[b]? = w.heap[b]? := fun b hb => hkeep b (hlt x hxh b hb) (fun hc => hne b hc hb)
      cases x with
      | var b t cs => exact ⟨hxh.1, (hb b rfl).trans hxh.2⟩
      | obj b o => exact ⟨hxh.1, (hb b rfl).trans hxh.2.1, hxh.2.2⟩
      | row a n c e size xs =>
        refine ⟨hxh.1, ?_⟩
        rcases hxh.2 with h2 | ⟨g, cap, cur, hv, h3, h4, h5⟩
        · exact .inl h2
        · refine .inr ⟨g, cap, cur, hv, h3, ?_, h5⟩
          cases hv
          rw [hb g rfl]; exact h4
  · have hxh := h1.holds x (List.mem_cons_of_mem _ hx)
    rcases hblk b hb with hc | hn
    · exact hp.1 x hx b hc hxb
    · exact absurd (hlt x hxh b hxb) (by omega)

/-- A new piece in a world that differs at new blocks alone. -/
theorem Sat.new {w0 w w' : World} {H : List Chunk} {d : Chunk} (h : Sat w0 w H)
    (hw : Below w0.heap.size w w') (hkeep : ∀ b, b < w.heap.size → w'.heap[b]? = w.heap[b]?)
    (hd : d.holds w0.heap.size w') (hblk : ∀ b, d.block = some b → w.heap.size ≤ b) (hdr : w.drawn ≤ w'.drawn := by first | assumption | exact Nat.le_refl _ | exact Nat.le_succ _ | exact Nat.le_add_right _ _) : Sat w0 w' (d :: H) := by
  have h0 : Sat w0 w (.row none 0 0 0 1 [] :: H) := by
    refine ⟨h.below, fun c hc => ?_, List.pairwise_cons.2 ⟨fun x _ b hb => (by cases hb), h.apart⟩, h.drawn⟩
    rcases List.mem_cons.1 hc with rfl | hc
    · exact World.ownsRow_nil w _ 0 1
    · exact h.holds c hc
  exact Sat.turn h0 (.head _ _) hw (fun b hb _ => hkeep b hb) hd (fun b hb => .inr (hblk b hb)) hdr

theorem Sat.same {w0 w w' : World} {H : List Chunk} (h : Sat w0 w H)
    (hw : Below w0.heap.size w w') (hkeep : ∀ b, b < w.heap.size → w'.heap[b]? = w.heap[b]?) (hdr : w.drawn ≤ w'.drawn := by first | assumption | exact Nat.le_refl _ | exact Nat.le_succ _ | exact Nat.le_add_right _ _) : Sat w0 w' H :=
  (Sat.new (d := .row none 0 0 0 1 []) h hw hkeep (World.ownsRow_nil w' _ 0 1) (fun b hb => by cases hb)).tail

/-- The fence that lets all in, at a round of a range over a function or at none. -/
def Fw (r : Option Nat) : Fence := { fn := fun _ => True, depth := none, alive := false, round := r }

section
variable (P : Program) (w0 : World) (N : Nat) (r : Option Nat)

abbrev Post := Exit → Fr → List Deferred → List Chunk → Prop
abbrev Cont := Fr → List Deferred → List Chunk → Prop
def lift (Q : Post) : Exit → Act → World → Prop := fun e a w => ∃ fr H, Rep N fr a.tmps ∧ Sat w0 w H ∧ Q e fr a.defers H
abbrev thenQ (K : Cont) (Q : Post) : Post
  | .normal, fr, ds, H => K fr ds H
  | e, fr, ds, H => Q e fr ds H
abbrev blockQ (id : Nat) (Q : Post) : Post
  | .exit i, fr, ds, H => cond (Nat.beq i id) (Q .normal fr ds H) (Q (.exit i) fr ds H)
  | e, fr, ds, H => Q e fr ds H

/-- What code does: from every world where H holds, to an end where Q does. -/
def SW (c : Code) (fr : Fr) (ds : List Deferred) (H : List Chunk) (Q : Post) : Prop :=
  ∀ tmps w, Rep N fr tmps → Sat w0 w H → c.wpIn (Fw r) 0 P (lift w0 N Q) ⟨tmps, ds⟩ w

/-- What a call does. -/
def SC (f : FuncId) (args : Array Value) (H : List Chunk) (R : Value → List Chunk → Prop) : Prop :=
  ∀ w, Sat w0 w H → Calls P f args w fun e w' => ∃ v H', e = .returned v ∧ Sat w0 w' H' ∧ R v H'
end

section rules
variable {P : Program} {w0 : World} {N : Nat} {r : Option Nat} {fr : Fr} {ds : List Deferred} {H : List Chunk} {Q : Post}

theorem SC.mono {f : FuncId} {args : Array Value} {R R' : Value → List Chunk → Prop} (h : SC P w0 f args H R) (hr : ∀ v H', R v H' → R' v H') : SC P w0 f args H R' :=
  fun w hw => (h w hw).mono fun _ _ ⟨v, H', e, s, q⟩ => ⟨v, H', e, s, hr _ _ q⟩
theorem SC.perm {f : FuncId} {args : Array Value} {R : Value → List Chunk → Prop} {H' : List Chunk} (p : H.Perm H') (h : SC P w0 f args H' R) : SC P w0 f args H R :=
  fun w hw => h w (hw.perm p)
theorem SC.drop {f : FuncId} {args : Array Value} {R : Value → List Chunk → Prop} {c : Chunk} (h : SC P w0 f args H R) : SC P w0 f args (c :: H) R :=
  fun w hw => h w hw.tail
theorem SW.mono {c : Code} {Q' : Post} (h : SW P w0 N r c fr ds H Q) (hq : ∀ e fr ds H, Q e fr ds H → Q' e fr ds H) : SW P w0 N r c fr ds H Q' :=
  fun tmps w hr hs => wpIn_mono (h tmps w hr hs) fun _ _ _ ⟨fr, H, a, b, c⟩ => ⟨fr, H, a, b, hq _ _ _ _ c⟩
theorem SW.perm {c : Code} {H' : List Chunk} (p : H.Perm H') (h : SW P w0 N r c fr ds H' Q) : SW P w0 N r c fr ds H Q :=
  fun tmps w hr hs => h tmps w hr (hs.perm p)
theorem SW.drop {c : Code} {x : Chunk} (h : SW P w0 N r c fr ds H Q) : SW P w0 N r c fr ds (x :: H) Q :=
  fun tmps w hr hs => h tmps w hr hs.tail
theorem SW.frame {c : Code} {fr' : Fr} (e : fr = fr') (h : SW P w0 N r c fr' ds H Q) : SW P w0 N r c fr ds H Q := e ▸ h

theorem SW.skip (h : Q .normal fr ds H) : SW P w0 N r .skip fr ds H Q := fun _ _ hr hs => wpIn_skip ⟨fr, H, hr, hs, h⟩
theorem SW.exit {id : Nat} (h : Q (.exit id) fr ds H) : SW P w0 N r (.exit id) fr ds H Q := fun _ _ hr hs => wpIn_exit ⟨fr, H, hr, hs, h⟩
theorem SW.ret (h : Q .ret fr ds H) : SW P w0 N r .ret fr ds H Q := fun _ _ hr hs => wpIn_ret ⟨fr, H, hr, hs, h⟩
theorem SW.seq {x y : Code} (h : SW P w0 N r x fr ds H (thenQ (fun fr' ds' H' => SW P w0 N r y fr' ds' H' Q) Q)) : SW P w0 N r (.seq x y) fr ds H Q := by
  intro tmps w hr hs
  refine wpIn_seq (wpIn_mono (h tmps w hr hs) ?_)
  rintro e a w' ⟨fr', H', h1, h2, h3⟩
  cases e with
  | normal => exact h3 _ _ h1 h2
  | _ => exact ⟨fr', H', h1, h2, h3⟩
theorem SW.seq_k {x y : Code} (h : ∀ K : Cont, (∀ fr' ds' H', SW P w0 N r y fr' ds' H' Q → K fr' ds' H') → SW P w0 N r x fr ds H (thenQ K Q)) : SW P w0 N r (.seq x y) fr ds H Q :=
  SW.seq (h _ fun _ _ _ h => h)
theorem SW.cond {c : Operand} {x y : Code} {t : Bool} (hc : ev fr c = .bool t) (h1 : t = true → SW P w0 N r x fr ds H Q) (h2 : t = false → SW P w0 N r y fr ds H Q) : SW P w0 N r (.cond c x y) fr ds H Q := by
  intro tmps w hr hs
  have he : (Act.mk tmps ds).eval c = .bool t := by rw [Rep.eval (a := ⟨tmps, ds⟩) hr]; exact hc
  exact wpIn_cond_split he (fun h => h1 h tmps w hr hs) (fun h => h2 h tmps w hr hs)
theorem SW.block {id : Nat} {c : Code} (h : SW P w0 N r c fr ds H (blockQ id Q)) : SW P w0 N r (.block id c) fr ds H Q := by
  intro tmps w hr hs
  refine wpIn_block (wpIn_mono (h tmps w hr hs) ?_)
  rintro e a w' ⟨fr', H', h1, h2, h3⟩
  cases e with
  | exit i =>
    simp only [Exit.inBlock]
    by_cases hi : i = id
    · subst hi
      rw [if_pos rfl]
      simp only [blockQ, Nat.beq_refl] at h3
      exact ⟨fr', H', h1, h2, h3⟩
    · rw [if_neg hi]
      have hb : Nat.beq i id = false := by
        cases hb : Nat.beq i id with
        | false => rfl
        | true => exact absurd (Nat.eq_of_beq_eq_true hb) hi
      simp only [blockQ, hb] at h3
      exact ⟨fr', H', h1, h2, h3⟩
  | _ => exact ⟨fr', H', h1, h2, h3⟩
/-- A loop: a relation that holds at its head, with a number that each round lowers. -/
theorem SW.loop {c : Code} (I : Nat → Fr → List Deferred → List Chunk → Prop) {n : Nat} (h0 : I n fr ds H)
    (h : ∀ n fr ds H, I n fr ds H → SW P w0 N r c fr ds H (thenQ (fun fr' ds' H' => ∃ n', n' < n ∧ I n' fr' ds' H') Q)) : SW P w0 N r (.loop c) fr ds H Q := by
  have key : ∀ n fr ds H, I n fr ds H → ∀ tmps w, Rep N fr tmps → Sat w0 w H → ∀ (b : Frame) (k : List Item) (cs : List Frame), b.roundOf = (Fw r).round → (Fw r).fn b.fn → (Fw r).room (cs.length + 1 + 0) →
      ∃ e a' w', lift w0 N Q e a' w' ∧ ArrivesIn (Machine.fenced P (Fw r)) P (lone (b.atR ⟨tmps, ds⟩ (.code c :: .inLoop c :: k)) cs w) b k cs e a' w' := by
    intro n
    induction n using Nat.strongRecOn with
    | _ n ih =>
      intro fr ds H hI tmps w hr hs b k cs hro hb hroom
      obtain ⟨e, a1, w1, ⟨fr1, H1, hr1, hs1, hq⟩, harr⟩ := h n fr ds H hI tmps w hr hs b (.inLoop c :: k) cs hro hb hroom
      cases e with
      | normal =>
        obtain ⟨n', hlt, hI'⟩ := hq
        obtain ⟨e2, a2, w2, hq2, harr2⟩ := ih n' hlt fr1 a1.defers H1 hI' a1.tmps w1 hr1 hs1 b k cs hro hb hroom
        exact ⟨e2, a2, w2, hq2, .of_steps (StepsIn.trans harr (.one (fenced_calm hb hroom rfl) stepR_inLoop)) harr2⟩
      | exit id => exact ⟨_, a1, w1, ⟨fr1, H1, hr1, hs1, hq⟩, .pass (x := .inLoop c) rfl (fun _ _ => .inl (by simp)) harr⟩
      | goto l => exact ⟨_, a1, w1, ⟨fr1, H1, hr1, hs1, hq⟩, .pass (x := .inLoop c) rfl (fun _ _ => .inl (by simp)) harr⟩
      | ret => exact ⟨_, a1, w1, ⟨fr1, H1, hr1, hs1, hq⟩, .pass (x := .inLoop c) rfl (fun _ _ => .inl (by simp)) harr⟩
      | panic ch => exact ⟨_, a1, w1, ⟨fr1, H1, hr1, hs1, hq⟩, .pass (x := .inLoop c) rfl (fun _ _ => .inl (by simp)) harr⟩
      | outgrown => exact ⟨_, a1, w1, ⟨fr1, H1, hr1, hs1, hq⟩, .pass (x := .inLoop c) rfl (fun _ _ => .inl (by simp)) harr⟩
  intro tmps w hr hs b k cs hro hb hroom
  obtain ⟨e, a', w', hq, harr⟩ := key n fr ds H h0 tmps w hr hs b k cs hro hb hroom
  exact ⟨e, a', w', hq, .of_steps (.one (fenced_calm hb hroom rfl) stepR_loop) harr⟩
end rules

/-! ### operations -/
section ops
variable (P : Program) (w0 : World) (N : Nat) (r : Option Nat)

/-- An operation that turns nothing, and its value. -/
def QV (fr : Fr) (H : List Chunk) (o : Oper) (v : Value) : Prop := ∀ w, Sat w0 w H → (execOp (ev fr) o).run P w = .ok (.value v) w

def uponV (R : Value → List Chunk → Prop) : Result Next → Prop
  | .ok (.value v) w' => ∃ H', Sat w0 w' H' ∧ R v H'
  | .ok .skip w' => ∃ H', Sat w0 w' H' ∧ R undef H'
  | .ok (.enter f args) w' => Calls P f args w' fun e w'' => ∃ v H', e = .returned v ∧ Sat w0 w'' H' ∧ R v H'
  | .ok (.round l f tmps assign body) w' => RoundIn (Fw r) 0 P l f tmps assign body w' fun e w'' => ∃ v H', e = .returned v ∧ Sat w0 w'' H' ∧ R v H'
  | _ => False

/-- Any operation but a 'defer': what it answers, and what is held behind it. -/
def NV (fr : Fr) (H : List Chunk) (o : Oper) (R : Value → List Chunk → Prop) : Prop :=
  (∀ c, o.op ≠ .defer c) ∧ ∀ w, Sat w0 w H → uponV P w0 r R ((execOp (ev fr) o).run P w)

theorem QV.nv {fr : Fr} {H : List Chunk} {o : Oper} {v : Value} {R : Value → List Chunk → Prop} (hd : ∀ c, o.op ≠ .defer c) (h : QV P w0 fr H o v) (hR : R v H) : NV P w0 r fr H o R :=
  ⟨hd, fun w hw => by rw [h w hw]; exact ⟨H, hw, hR⟩⟩

theorem uponV.mono {R R' : Value → List Chunk → Prop} {x : Result Next} (h : uponV P w0 r R x) (hr : ∀ v H', R v H' → R' v H') : uponV P w0 r R' x := by
  cases x with
  | halt => exact h.elim
  | ok n w =>
    cases n <;> first
      | exact h.elim
      | (obtain ⟨H', s, q⟩ := h; exact ⟨H', s, hr _ _ q⟩)
      | exact Calls.mono h fun _ _ ⟨v, H', e, s, q⟩ => ⟨v, H', e, s, hr _ _ q⟩
      | exact RoundIn.mono h fun _ _ ⟨v, H', e, s, q⟩ => ⟨v, H', e, s, hr _ _ q⟩
theorem NV.mono {fr : Fr} {H : List Chunk} {o : Oper} {R R' : Value → List Chunk → Prop} (h : NV P w0 r fr H o R) (hr : ∀ v H', R v H' → R' v H') : NV P w0 r fr H o R' :=
  ⟨h.1, fun w hw => (h.2 w hw).mono (hr := hr)⟩

/-- From what an operation answers to the machine's own word. -/
theorem NV.wpIn {fr : Fr} {H : List Chunk} {o : Oper} {a : Act} {w : World} {R : Value → List Chunk → Prop} {next : Act → World → Prop} {Q : Exit → Act → World → Prop}
    (h : NV P w0 r fr H o R) (hr : Rep N fr a.tmps) (hs : Sat w0 w H) (hk : ∀ v H' w', R v H' → Sat w0 w' H' → next (a.put o.dst v) w') :
    o.wpIn (Fw r) 0 P a w next Q := by
  refine ⟨fun _ _ => trivial, ?_⟩
  have hu := h.2 w hs
  rw [Oper.semAt_eq _ _ _ h.1, Rep.eval hr]
  cases hx : (execOp (ev fr) o).run P w with
  | halt x w' => rw [hx] at hu; exact hu.elim
  | ok n w' =>
    rw [hx] at hu
    cases n <;> first
      | exact hu.elim
      | (obtain ⟨H', s, q⟩ := hu; exact hk _ _ _ q s)
      | skip
    · refine ⟨fun hn => by simp [Fw] at hn, ?_⟩
      have hc : CallsIn (Fw none) 0 P _ _ w' _ := callsIn_wide.2 hu
      refine CallsIn.mono (F := Fw r) (n := 0) hc ?_
      rintro e w'' ⟨v, H', rfl, s, q⟩
      exact hk _ _ _ q s
    · refine ⟨fun hn => by simp [Fw] at hn, ?_⟩
      refine RoundIn.mono hu ?_
      rintro e w'' ⟨v, H', rfl, s, q⟩
      exact hk _ _ _ q s

/-- The rest of a region, in the text's order. -/
def RL (ops : Array Oper) (l : List Oper) (fr : Fr) (ds : List Deferred) (H : List Chunk) (K : Cont) : Prop :=
  ∀ tmps w idx, idx.map (fun i => ops[i]?) = l.map some → Rep N fr tmps → Sat w0 w H →
    wpOpsIn (Fw r) 0 P ops (lift w0 N (fun e fr' ds' H' => match e with | .normal => K fr' ds' H' | _ => False)) idx ⟨tmps, ds⟩ w

theorem SW.region {id : Nat} {ops : Array Oper} {fr : Fr} {ds : List Deferred} {H : List Chunk} {Q : Post} (h : RL P w0 N r ops ops.toList fr ds H (fun fr' ds' H' => Q .normal fr' ds' H')) :
    SW P w0 N r (.region id ops false) fr ds H Q := by
  intro tmps w hr hs
  refine wpIn_mono (wpIn_region (h tmps w (List.range ops.size) ?_ hr hs)) ?_
  · apply List.ext_getElem?
    intro i
    simp only [List.getElem?_map, Array.getElem?_toList]
    by_cases hi : i < ops.size
    · rw [List.getElem?_range hi]; simp [hi]
    · rw [List.getElem?_eq_none (by simp; omega), Array.getElem?_eq_none (by omega)]; rfl
  · rintro e a w' ⟨fr', H', h1, h2, h3⟩
    cases e with
    | normal => exact ⟨fr', H', h1, h2, h3⟩
    | _ => exact h3.elim

theorem RL.nil {ops : Array Oper} {fr : Fr} {ds : List Deferred} {H : List Chunk} {K : Cont} (h : K fr ds H) : RL P w0 N r ops [] fr ds H K := by
  intro tmps w idx hi hr hs
  cases idx with
  | nil => exact ⟨fr, H, hr, hs, h⟩
  | cons => simp at hi

def gslot (ops : Array Oper) (o : Oper) : Option (Nat × Bool) :=
  match o.guard with
  | none => none
  | some (j, b) => match (ops[j]?).bind (·.dst) with
    | some d => some (d, b)
    | none => none

theorem wanted_of {N : Nat} {fr : Fr} {ops : Array Oper} {o : Oper} {d : Nat} {b t : Bool} {tmps : Array Value} (hs : gslot ops o = some (d, b)) (hr : Rep N fr tmps) (ht : fr d = .bool t) : Region.wanted o (yielded ops tmps) = (t == b) := by
  unfold gslot at hs
  split at hs
  · cases hs
  · rename_i j b' hg
    split at hs
    · rename_i d' hd
      cases hs
      have hx := hr.get d
      rw [ht] at hx
      have : tmps[d]? = some (.bool t) := by
        rw [Array.getD_eq_getD_getElem?] at hx
        cases h : tmps[d]? with
        | none => rw [h] at hx; cases hx
        | some v => rw [h] at hx; simp at hx; rw [hx]
      simp [Region.wanted, hg, yielded, hd, this]
    · cases hs

/-- A guard's value that doesn't let. -/
def isNot (v : Value) (b : Bool) : Bool :=
  match v with
  | .bool t => !(t == b)
  | .tuple _ => true
  | _ => false
theorem wanted_not {N : Nat} {fr : Fr} {ops : Array Oper} {o : Oper} {d : Nat} {b : Bool} {tmps : Array Value} (hs : gslot ops o = some (d, b)) (hr : Rep N fr tmps) (ht : isNot (fr d) b = true) : Region.wanted o (yielded ops tmps) = false := by
  unfold isNot at ht
  split at ht
  · rename_i t h
    rw [wanted_of hs hr h]
    simpa using ht
  · rename_i vs h
    unfold gslot at hs
    split at hs
    · cases hs
    · rename_i j b' hg
      split at hs
      · rename_i d' hd
        cases hs
        have hx := hr.get d
        rw [h] at hx
        have : yielded ops tmps j = none := by
          unfold yielded
          rw [hd]
          rw [Array.getD_eq_getD_getElem?] at hx
          cases h2 : tmps[d]? with
          | none => simp [h2]
          | some v => rw [h2] at hx; simp at hx; subst hx; simp [h2]
        simp [Region.wanted, hg, this]
      · cases hs
  · cases ht

/-- An operation that is carried out: it has no guard, or its guard says so. -/
inductive Gd (ops : Array Oper) (fr : Fr) (o : Oper) : Prop
  | none (h : o.guard = Option.none)
  | yes {d : Nat} {b : Bool} (hs : gslot ops o = some (d, b)) (h : fr d = .bool b)
theorem Gd.wanted {N : Nat} {fr : Fr} {ops : Array Oper} {o : Oper} {tmps : Array Value} (h : Gd ops fr o) (hr : Rep N fr tmps) : Region.wanted o (yielded ops tmps) = true := by
  cases h with
  | none h => simp [Region.wanted, h]
  | yes hs h => rw [wanted_of hs hr h]; simp

theorem RL.nv {ops : Array Oper} {l : List Oper} {o : Oper} {fr : Fr} {ds : List Deferred} {H : List Chunk} {K : Cont} (hg : Gd ops fr o) (hd : dstOK N o.dst = true)
    (h : NV P w0 r fr H o fun v H' => RL P w0 N r ops l (putF fr o.dst v) ds H' K) : RL P w0 N r ops (o :: l) fr ds H K := by
  intro tmps w idx hi hr hs
  cases idx with
  | nil => simp at hi
  | cons i idx =>
    simp only [List.map_cons, List.cons.injEq] at hi
    simp only [wpOpsIn, hi.1]
    rw [if_pos (hg.wanted hr)]
    refine NV.wpIn P w0 N r h (a := ⟨tmps, ds⟩) hr hs fun v H' w' q s => ?_
    have hp := Rep.put (a := ⟨tmps, ds⟩) hr hd v
    have := q _ w' idx hi.2 hp s
    cases hdst : o.dst <;> simpa [Act.put, hdst] using this

theorem RL.qv {ops : Array Oper} {l : List Oper} {o : Oper} {fr : Fr} {ds : List Deferred} {H : List Chunk} {K : Cont} {v : Value} (hg : Gd ops fr o) (hd : dstOK N o.dst = true) (hn : ∀ c, o.op ≠ .defer c)
    (h : QV P w0 fr H o v) (hk : RL P w0 N r ops l (putF fr o.dst v) ds H K) : RL P w0 N r ops (o :: l) fr ds H K :=
  RL.nv P w0 N r hg hd (QV.nv P w0 r hn h hk)
end ops
end Go.Sep
