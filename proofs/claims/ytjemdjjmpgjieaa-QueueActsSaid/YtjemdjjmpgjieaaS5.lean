import Derived.Test.YtjemdjjmpgjieaaS4
import Derived.Laws.StructEq
set_option linter.unusedVariables false
set_option linter.unusedSimpArgs false
/- '==' between structs and arrays of plain values. -/
namespace Go.Sep
open Go Go.RowKit

/-- Struct types that may be held against each other. -/
structure Pl (P : Program) where
  is : TypeId → Bool
  h : ∀ t, is t = true → P.stoodInHeld t = false ∧ P.eqGuardType P.depth t = false ∧ ∀ fs, P.underlying t = some (.struct fs) → ∀ f ∈ fs.toList, f.name ≠ "_"

def eqfs {P : Program} (T : Tab P) (rec : TypeId → Value → Value → Option Bool) (xs ys : List Value) : List Field → Option Bool
  | [] => some true
  | f :: fs =>
    match partv T f.type xs f.offset, partv T f.type ys f.offset with
    | some a, some b => (match rec f.type a b, eqfs T rec xs ys fs with
      | some p, some q => some (p && q)
      | _, _ => none)
    | _, _ => none
def eqar {P : Program} (T : Tab P) (rec : TypeId → Value → Value → Option Bool) (e : TypeId) (sz : Nat) (xs ys : List Value) : Nat → Nat → Option Bool
  | 0, _ => some true
  | m + 1, i =>
    match partv T e xs (i * sz), partv T e ys (i * sz) with
    | some a, some b => (match rec e a b, eqar T rec e sz xs ys m (i + 1) with
      | some p, some q => some (p && q)
      | _, _ => none)
    | _, _ => none
def eqd {P : Program} (T : Tab P) (L : Pl P) : Nat → TypeId → Value → Value → Option Bool
  | 0, _, _, _ => none
  | n + 1, t, x, y =>
    match T.desc t with
    | some d => (match d with
      | .int _ => (match x with | .int k a => (match y with | .int k' b => cond (decide (k = k')) (some (decide (a = b))) none | _ => none) | _ => none)
      | .bool => (match x with | .bool a => (match y with | .bool b => some (a == b) | _ => none) | _ => none)
      | .string => (match x with | .string a => (match y with | .string b => some (a == b) | _ => none) | _ => none)
      | .struct fs => (match x with | .agg xs => (match y with | .agg ys => cond (L.is t) (eqfs T (eqd T L n) xs.toList ys.toList fs.toList) none | _ => none) | _ => none)
      | .array len e => (match x with
        | .agg xs => (match y with
          | .agg ys => (match T.info e with | some ie => eqar T (eqd T L n) e ie.size xs.toList ys.toList len 0 | none => none)
          | _ => none)
        | _ => none)
      | _ => none)
    | none => none

section
variable {P : Program} {w0 : World} {fr : Fr} {H : List Chunk} {r : Option Nat}

/-- The rounds of '==' between arrays. -/
def eqArr (m : Nat) (e : TypeId) (sz : Nat) (xs ys : Array Value) : Nat → Nat → Sem Bool
  | 0, _ => Pure.pure true
  | k + 1, i => do
    let a ← part e xs (i * sz)
    let b ← part e ys (i * sz)
    let r ← Op.equalIn m e a b
    if (!r) = true then Pure.pure false else eqArr m e sz xs ys k (i + 1)

theorem run_equalIn_arr (T : Tab P) (m : Nat) (t e len : Nat) (ie : TypeInfo) (xs ys : Array Value) (w : World) (hd : T.desc t = some (.array len e)) (hi : T.info e = some ie) :
    (Op.equalIn (m + 1) t (.agg xs) (.agg ys)).run P w = (eqArr m e ie.size xs ys len 0).run P w := by
  simp only [Op.equalIn, Sem.run_bind, run_ul T hd, Result.andThen_ok, run_size T hi]
  rw [Std.Legacy.Range.forIn_eq_forIn_range']
  simp only [Std.Legacy.Range.size]
  have e1 : (len - 0 + 1 - 1) / 1 = len := by simp
  rw [e1]
  clear e1 hd
  generalize 0 = i
  induction len generalizing i w with
  | zero => simp [eqArr]
  | succ len ih =>
    simp only [List.range'_succ, List.forIn_cons, eqArr, Sem.run_bind, Sem.run_ite]
    generalize (part e xs (i * ie.size)).run P w = r1
    cases r1 with
    | halt => rfl
    | ok a w1 =>
      simp only [Result.andThen_ok]
      generalize (part e ys (i * ie.size)).run P w1 = r2
      cases r2 with
      | halt => rfl
      | ok b w2 =>
        simp only [Result.andThen_ok]
        generalize (Op.equalIn m e a b).run P w2 = r3
        cases r3 with
        | halt => rfl
        | ok c w3 =>
          cases c
          · simp
          · simpa using ih w3 (i + 1)

theorem run_eqd (T : Tab P) (L : Pl P) : ∀ (n : Nat) (t : TypeId) (x y : Value) (b : Bool) (w : World) (m : Nat), n ≤ m → eqd T L n t x y = some b → (Op.equalIn m t x y).run P w = .ok b w := by
  intro n
  induction n with
  | zero => intro t x y b w m _ h; rw [eqd] at h; cases h
  | succ n IH =>
    intro t x y b w m hm h
    obtain ⟨m, rfl⟩ : ∃ k, m = k + 1 := ⟨m - 1, by omega⟩
    have ih := fun t x y b w => IH t x y b w m (by omega)
    unfold eqd at h
    cases hd : T.desc t with
    | none => rw [hd] at h; cases h
    | some d =>
      rw [hd] at h
      cases d with
      | int k0 =>
        cases x with
        | int k a =>
          cases y with
          | int k' b' =>
            simp only [] at h
            cases hk : decide (k = k') with
            | false => rw [hk] at h; cases h
            | true =>
              rw [hk] at h
              have e := of_decide_eq_true hk
              subst e; cases h
              simp [Op.equalIn, run_ul T hd]; rfl
          | _ => cases h
        | _ => cases h
      | bool =>
        cases x with
        | bool a =>
          cases y with
          | bool b' => cases h; simp [Op.equalIn, run_ul T hd]
          | _ => cases h
        | _ => cases h
      | string =>
        cases x with
        | string a =>
          cases y with
          | string b' => cases h; simp [Op.equalIn, run_ul T hd]
          | _ => cases h
        | _ => cases h
      | struct fs =>
        cases x with
        | agg xs =>
          cases y with
          | agg ys =>
            simp only [] at h
            cases hl : L.is t with
            | false => rw [hl] at h; cases h
            | true =>
              rw [hl] at h
              simp only [cond] at h
              obtain ⟨h1, h2, h3⟩ := L.h t hl
              have hf := h3 fs (T.hdesc _ _ hd)
              have hfs : P.fieldsOf t = fs := by unfold Program.fieldsOf; rw [T.hdesc _ _ hd]
              rw [run_equalIn_struct w m t xs ys (by rw [hfs]; exact T.hdesc _ _ hd) h1, hfs]
              have key : ∀ (l : List Field), (∀ f ∈ l, f.name ≠ "_") → ∀ (b : Bool) (w : World), eqfs T (eqd T L n) xs.toList ys.toList l = some b → (Op.eqFields m xs ys l).run P w = .ok b w := by
                intro l
                induction l with
                | nil => intro _ b w h; cases h; rfl
                | cons f l ihl =>
                  intro hn b w h
                  unfold eqfs at h
                  split at h
                  · rename_i a c ha hc
                    split at h
                    · rename_i p q hp hq
                      cases h
                      rw [Op.eqFields, if_pos (hn f (by simp))]
                      simp only [Sem.run_bind, run_part T ha, run_part T hc, ih _ _ _ _ _ hp, Result.andThen_ok, Sem.run_ite]
                      cases p
                      · simp
                      · simpa using ihl (fun g hg => hn g (by simp [hg])) q w hq
                    · cases h
                  · cases h
              exact key _ hf b w h
          | _ => cases h
        | _ => cases h
      | array len e =>
        cases x with
        | agg xs =>
          cases y with
          | agg ys =>
            simp only [] at h
            cases hi : T.info e with
            | none => rw [hi] at h; cases h
            | some ie =>
              rw [hi] at h
              simp only [] at h
              rw [run_equalIn_arr T m t e len ie xs ys w hd hi]
              have key : ∀ (k i : Nat) (b : Bool) (w : World), eqar T (eqd T L n) e ie.size xs.toList ys.toList k i = some b → (eqArr m e ie.size xs ys k i).run P w = .ok b w := by
                intro k
                induction k with
                | zero => intro i b w h; cases h; rfl
                | succ k ihk =>
                  intro i b w h
                  unfold eqar at h
                  split at h
                  · rename_i a c ha hc
                    split at h
                    · rename_i p q hp hq
                      cases h
                      simp only [eqArr, Sem.run_bind, run_part T ha, run_part T hc, ih _ _ _ _ _ hp, Result.andThen_ok, Sem.run_ite]
                      cases p
                      · simp
                      · simpa using ihk (i + 1) q w hq
                    · cases h
                  · cases h
              exact key _ _ b w h
          | _ => cases h
        | _ => cases h
      | _ => cases h

theorem QV.eqd (T : Tab P) (L : Pl P) {o : Oper} {t yt : TypeId} {x y : Operand} {xs ys : Array Value} {b : Bool} (ho : o.op = .binOp .eql t x y yt) (hx : ev fr x = .agg xs) (hy : ev fr y = .agg ys)
    (hg : P.eqGuardType P.depth t = false) (h : eqd T L 20 t (.agg xs) (.agg ys) = some b) : QV P w0 fr H o (.bool b) := by
  intro w _
  have h1 := run_eqd T L 20 t _ _ b w Op.maxDepth (by simp [Op.maxDepth]) h
  have h2 : (eqGuard .eql t x y (.agg xs) (.agg ys)).run P w = .ok () w := run_eqGuard_agg (P := P) (w := w) .eql t x y xs ys hg
  have h3 : (binOp .eql t (.agg xs) (.agg ys)).run P w = .ok (.bool b) w := by
    show ((do Pure.pure (Value.bool (← Op.equal t (.agg xs) (.agg ys)))) : Sem Value).run P w = _
    simp only [Sem.run_bind, Op.equal, h1, Result.andThen_ok, Sem.run_pure]
  simp [execOp, ho, hx, hy, h2, h3]
theorem NV.eqd (T : Tab P) (L : Pl P) {o : Oper} {R : Value → List Chunk → Prop} {t yt : TypeId} {x y : Operand} {xs ys : Array Value} {b : Bool} (ho : o.op = .binOp .eql t x y yt) (hx : ev fr x = .agg xs) (hy : ev fr y = .agg ys)
    (hg : P.eqGuardType P.depth t = false) (h : Sep.eqd T L 20 t (.agg xs) (.agg ys) = some b) (hk : R (.bool b) H) : NV P w0 r fr H o R :=
  QV.nv P w0 r (fun c hc => by rw [ho] at hc; cases hc) (QV.eqd T L ho hx hy hg h) hk
/-- What is held against itself. -/
theorem QV.eqT {o : Oper} {t yt : TypeId} {x y : Operand} {k : IntKind} {a b : Int} (ho : o.op = .binOp .eql t x y yt) (hx : ev fr x = .int k a) (hy : ev fr y = .int k b) (e : a = b) : QV P w0 fr H o (.bool true) := by
  subst e
  intro w _
  have hg : (eqGuard .eql t x y (.int k a) (.int k a)).run P w = .ok () w := by simp [eqGuard]
  have hr : (binOp .eql t (.int k a) (.int k a)).run P w = .ok (.bool true) w := by simp [binOp, Op.intCmp]
  simp [execOp, ho, hx, hy, hg, hr]
theorem NV.eqT {o : Oper} {R : Value → List Chunk → Prop} {t yt : TypeId} {x y : Operand} {k : IntKind} {a b : Int} (ho : o.op = .binOp .eql t x y yt) (hx : ev fr x = .int k a) (hy : ev fr y = .int k b) (e : a = b) (hk : R (.bool true) H) : NV P w0 r fr H o R :=
  QV.nv P w0 r (fun c hc => by rw [ho] at hc; cases hc) (QV.eqT ho hx hy e) hk
theorem QV.as {o : Oper} {v v' : Value} (h : QV P w0 fr H o v) (e : v = v') : QV P w0 fr H o v' := e ▸ h
end
end Go.Sep
namespace Go.Sep
open Go Go.RowKit
/-- A law's contract, as its row wants it. -/
theorem SC.law {P : Program} {w0 : World} {f : FuncId} {args : Array Value} (h : SC P w0 f args [] (fun v H' => v = .bool true ∧ H' = [])) :
    Calls P f args w0 fun e w' => e = .returned (.bool true) ∧ Below w0.heap.size w0 w' :=
  (h w0 (Sat.start w0)).mono fun _ _ ⟨_, _, he, hs, hv, _⟩ => ⟨by rw [he, hv], hs.below⟩
end Go.Sep
namespace Go.Sep
open Go Go.RowKit
theorem ones {l : List Value} (h : l.all Value.oneCell' = true) : ∀ u ∈ l, u.oneCell' = true := fun u hu => List.all_eq_true.1 h u hu
theorem Rd.as {w0 : World} {H : List Chunk} {a : Option Addr} {n c sz : Nat} {xs ys : List Value} (h : Rd w0 H a n c sz xs) (e : xs = ys) : Rd w0 H a n c sz ys := e ▸ h
theorem Rd.to {w0 : World} {H : List Chunk} {a : Option Addr} {n n' c sz : Nat} {xs ys : List Value} (h : Rd w0 H a n c sz xs) (en : n = n') (e : xs = ys) : Rd w0 H a n' c sz ys := en ▸ e ▸ h
/-- A slice of whole numbers that came in. -/
theorem Rd.ints {W : World} {H : List Chunk} {k : IntKind} {x : Addr} {len cap : Nat} {zs : List Int} (hl : len ≤ cap) (hz : len ≤ zs.length) (hc : ∀ i, i < zs.length → W.cell? (x.add i) = Option.some (Value.int k (zs.getD i 0))) :
    Rd W H (Option.some x) len cap 1 ((zs.take len).map (Value.int k)) := by
  refine ⟨by simp; omega, hl, fun _ => rfl, fun p hp j v hj => ?_⟩
  cases hp
  rw [List.getElem?_map] at hj
  have hjl : j < (zs.take len).length := by
    rcases Nat.lt_or_ge j (zs.take len).length with h | h
    · exact h
    · rw [List.getElem?_eq_none h] at hj; cases hj
  rw [List.getElem?_eq_getElem hjl] at hj
  cases hj
  have h2 : j < zs.length := by simp at hjl; omega
  refine Cell.old ((hc j h2).trans ?_)
  simp [List.getD_eq_getElem?_getD, h2]
theorem Rd.nil {W : World} {H : List Chunk} : Rd W H Option.none 0 0 1 [] := ⟨rfl, Nat.le_refl _, fun h => absurd h (by simp), fun p hp => by cases hp⟩
section
variable {P : Program} {w0 : World} {r : Option Nat} {fr : Fr} {H : List Chunk}
theorem QV.rem {o : Oper} {t yt : TypeId} {x y : Operand} {k : IntKind} {a b m : Int} (ho : o.op = .binOp .rem t x y yt) (hx : ev fr x = .int k a) (hy : ev fr y = .int k b) (hb : b ≠ 0) (hm : a.tmod b = m) : QV P w0 fr H o (.int k m) := by
  intro w _
  subst hm
  simp [execOp, ho, hx, hy, eqGuard, binOp, Op.intDiv, hb]
theorem NV.rem {o : Oper} {R : Value → List Chunk → Prop} {t yt : TypeId} {x y : Operand} {k : IntKind} {a b m : Int} (ho : o.op = .binOp .rem t x y yt) (hx : ev fr x = .int k a) (hy : ev fr y = .int k b) (hb : b ≠ 0) (hm : a.tmod b = m) (hk : R (.int k m) H) : NV P w0 r fr H o R :=
  QV.nv P w0 r (fun c hc => by rw [ho] at hc; cases hc) (QV.rem ho hx hy hb hm) hk
theorem QV.quo {o : Oper} {t yt : TypeId} {x y : Operand} {k : IntKind} {a b m : Int} (ho : o.op = .binOp .quo t x y yt) (hx : ev fr x = .int k a) (hy : ev fr y = .int k b) (hb : b ≠ 0) (hm : k.wrap (a.tdiv b) = m) : QV P w0 fr H o (.int k m) := by
  intro w _
  subst hm
  simp [execOp, ho, hx, hy, eqGuard, binOp, Op.intDiv, hb]
theorem NV.quo {o : Oper} {R : Value → List Chunk → Prop} {t yt : TypeId} {x y : Operand} {k : IntKind} {a b m : Int} (ho : o.op = .binOp .quo t x y yt) (hx : ev fr x = .int k a) (hy : ev fr y = .int k b) (hb : b ≠ 0) (hm : k.wrap (a.tdiv b) = m) (hk : R (.int k m) H) : NV P w0 r fr H o R :=
  QV.nv P w0 r (fun c hc => by rw [ho] at hc; cases hc) (QV.quo ho hx hy hb hm) hk
theorem QV.shift {o : Oper} {op : BinOp} {t yt : TypeId} {x y : Operand} {k yk : IntKind} {a b m : Int} (ho : o.op = .binOp op t x y yt) (hx : ev fr x = .int k a) (hy : ev fr y = .int yk b) (hb : 0 ≤ b)
    (hm : (op = .shl ∧ k.wrap (a * 2 ^ (min b.toNat k.bits)) = m) ∨ (op = .shr ∧ a.fdiv (2 ^ (min b.toNat k.bits)) = m)) : QV P w0 fr H o (.int k m) := by
  intro w _
  have hb' : ¬ b < 0 := by omega
  rcases hm with ⟨rfl, rfl⟩ | ⟨rfl, rfl⟩ <;> simp [execOp, ho, hx, hy, eqGuard, binOp, Op.shift, hb']
theorem NV.shift {o : Oper} {R : Value → List Chunk → Prop} {op : BinOp} {t yt : TypeId} {x y : Operand} {k yk : IntKind} {a b m : Int} (ho : o.op = .binOp op t x y yt) (hx : ev fr x = .int k a) (hy : ev fr y = .int yk b) (hb : 0 ≤ b)
    (hm : (op = .shl ∧ k.wrap (a * 2 ^ (min b.toNat k.bits)) = m) ∨ (op = .shr ∧ a.fdiv (2 ^ (min b.toNat k.bits)) = m)) (hk : R (.int k m) H) : NV P w0 r fr H o R :=
  QV.nv P w0 r (fun c hc => by rw [ho] at hc; cases hc) (QV.shift ho hx hy hb hm) hk
theorem QV.convI (T : Tab P) {o : Oper} {s d : TypeId} {x : Operand} {k k' : IntKind} {n : Int} {sd : TypeDesc} (ho : o.op = .convert s d x) (hx : ev fr x = .int k n) (hs : T.desc s = some sd) (hd : T.desc d = some (.int k')) (h1 : loK k' ≤ n) (h2 : n ≤ hiK k') : QV P w0 fr H o (.int k' n) := by
  intro w _
  simp [execOp, ho, run_convv T hx hs hd (by rw [wrap_in h1 h2]) w]
theorem NV.convI (T : Tab P) {o : Oper} {R : Value → List Chunk → Prop} {s d : TypeId} {x : Operand} {k k' : IntKind} {n : Int} {sd : TypeDesc} (ho : o.op = .convert s d x) (hx : ev fr x = .int k n) (hs : T.desc s = some sd) (hd : T.desc d = some (.int k')) (h1 : loK k' ≤ n) (h2 : n ≤ hiK k') (hk : R (.int k' n) H) : NV P w0 r fr H o R :=
  QV.nv P w0 r (fun c hc => by rw [ho] at hc; cases hc) (QV.convI T ho hx hs hd h1 h2) hk
theorem NV.build1 (T : Tab P) {o : Oper} {R : Value → List Chunk → Prop} {t e : TypeId} {x : Operand} {v : Value} {ie : TypeInfo} {sz : Nat} {cells : List Value}
    (ho : o.op = .buildSlice t 1 #[(0, x)]) (hx : ev fr x = v) (hd : T.desc t = some (.slice e)) (hi : T.info e = some ie) (hs : ie.size = sz) (hb : bslv T e 1 [(0, v)] = some cells)
    (hk : ∀ b, R (.slice (some ⟨b, 0, none⟩) 1 1) (.row (some ⟨b, 0, none⟩) 1 1 e sz cells :: H)) : NV P w0 r fr H o R := by
  subst hx hs
  exact NV.buildSlice T ho hd hi (by decide) hb hk
end
end Go.Sep
namespace Go.Sep
open Go Go.RowKit
theorem QV.arith_u8 {P : Program} {w0 : World} {fr : Fr} {H : List Chunk} {o : Oper} {op : BinOp} {t yt : TypeId} {x y : Operand} {a b m : Int} (ho : o.op = .binOp op t x y yt) (hx : ev fr x = .int .u8 a) (hy : ev fr y = .int .u8 b) (hm : intv op .u8 a b = some (.int .u8 (IntKind.u8.wrap m)))
    (h1 : 0 ≤ m) (h2 : m ≤ 255) : QV P w0 fr H o (.int .u8 m) := by
  intro w _
  have hw : IntKind.u8.wrap m = m := wrap_in (by simpa only [loK] using h1) (by simpa only [hiK] using h2)
  rw [hw] at hm
  have hg : (eqGuard op t x y (.int .u8 a) (.int .u8 b)).run P w = .ok () w := by
    unfold eqGuard
    cases op <;> simp
  simp [execOp, ho, hx, hy, run_intv hm, hg]
theorem NV.arith_u8 {P : Program} {w0 : World} {r : Option Nat} {fr : Fr} {H : List Chunk} {o : Oper} {R : Value → List Chunk → Prop} {op : BinOp} {t yt : TypeId} {x y : Operand} {a b m : Int} (ho : o.op = .binOp op t x y yt) (hx : ev fr x = .int .u8 a) (hy : ev fr y = .int .u8 b) (hm : intv op .u8 a b = some (.int .u8 (IntKind.u8.wrap m)))
    (h1 : 0 ≤ m) (h2 : m ≤ 255) (hk : R (.int .u8 m) H) : NV P w0 r fr H o R :=
  QV.nv P w0 r (fun c hc => by rw [ho] at hc; cases hc) (QV.arith_u8 ho hx hy hm h1 h2) hk
theorem QV.arith_u16 {P : Program} {w0 : World} {fr : Fr} {H : List Chunk} {o : Oper} {op : BinOp} {t yt : TypeId} {x y : Operand} {a b m : Int} (ho : o.op = .binOp op t x y yt) (hx : ev fr x = .int .u16 a) (hy : ev fr y = .int .u16 b) (hm : intv op .u16 a b = some (.int .u16 (IntKind.u16.wrap m)))
    (h1 : 0 ≤ m) (h2 : m ≤ 65535) : QV P w0 fr H o (.int .u16 m) := by
  intro w _
  have hw : IntKind.u16.wrap m = m := wrap_in (by simpa only [loK] using h1) (by simpa only [hiK] using h2)
  rw [hw] at hm
  have hg : (eqGuard op t x y (.int .u16 a) (.int .u16 b)).run P w = .ok () w := by
    unfold eqGuard
    cases op <;> simp
  simp [execOp, ho, hx, hy, run_intv hm, hg]
theorem NV.arith_u16 {P : Program} {w0 : World} {r : Option Nat} {fr : Fr} {H : List Chunk} {o : Oper} {R : Value → List Chunk → Prop} {op : BinOp} {t yt : TypeId} {x y : Operand} {a b m : Int} (ho : o.op = .binOp op t x y yt) (hx : ev fr x = .int .u16 a) (hy : ev fr y = .int .u16 b) (hm : intv op .u16 a b = some (.int .u16 (IntKind.u16.wrap m)))
    (h1 : 0 ≤ m) (h2 : m ≤ 65535) (hk : R (.int .u16 m) H) : NV P w0 r fr H o R :=
  QV.nv P w0 r (fun c hc => by rw [ho] at hc; cases hc) (QV.arith_u16 ho hx hy hm h1 h2) hk
theorem QV.arith_u32 {P : Program} {w0 : World} {fr : Fr} {H : List Chunk} {o : Oper} {op : BinOp} {t yt : TypeId} {x y : Operand} {a b m : Int} (ho : o.op = .binOp op t x y yt) (hx : ev fr x = .int .u32 a) (hy : ev fr y = .int .u32 b) (hm : intv op .u32 a b = some (.int .u32 (IntKind.u32.wrap m)))
    (h1 : 0 ≤ m) (h2 : m ≤ 4294967295) : QV P w0 fr H o (.int .u32 m) := by
  intro w _
  have hw : IntKind.u32.wrap m = m := wrap_in (by simpa only [loK] using h1) (by simpa only [hiK] using h2)
  rw [hw] at hm
  have hg : (eqGuard op t x y (.int .u32 a) (.int .u32 b)).run P w = .ok () w := by
    unfold eqGuard
    cases op <;> simp
  simp [execOp, ho, hx, hy, run_intv hm, hg]
theorem NV.arith_u32 {P : Program} {w0 : World} {r : Option Nat} {fr : Fr} {H : List Chunk} {o : Oper} {R : Value → List Chunk → Prop} {op : BinOp} {t yt : TypeId} {x y : Operand} {a b m : Int} (ho : o.op = .binOp op t x y yt) (hx : ev fr x = .int .u32 a) (hy : ev fr y = .int .u32 b) (hm : intv op .u32 a b = some (.int .u32 (IntKind.u32.wrap m)))
    (h1 : 0 ≤ m) (h2 : m ≤ 4294967295) (hk : R (.int .u32 m) H) : NV P w0 r fr H o R :=
  QV.nv P w0 r (fun c hc => by rw [ho] at hc; cases hc) (QV.arith_u32 ho hx hy hm h1 h2) hk
theorem QV.arith_u64 {P : Program} {w0 : World} {fr : Fr} {H : List Chunk} {o : Oper} {op : BinOp} {t yt : TypeId} {x y : Operand} {a b m : Int} (ho : o.op = .binOp op t x y yt) (hx : ev fr x = .int .u64 a) (hy : ev fr y = .int .u64 b) (hm : intv op .u64 a b = some (.int .u64 (IntKind.u64.wrap m)))
    (h1 : 0 ≤ m) (h2 : m ≤ 18446744073709551615) : QV P w0 fr H o (.int .u64 m) := by
  intro w _
  have hw : IntKind.u64.wrap m = m := wrap_in (by simpa only [loK] using h1) (by simpa only [hiK] using h2)
  rw [hw] at hm
  have hg : (eqGuard op t x y (.int .u64 a) (.int .u64 b)).run P w = .ok () w := by
    unfold eqGuard
    cases op <;> simp
  simp [execOp, ho, hx, hy, run_intv hm, hg]
theorem NV.arith_u64 {P : Program} {w0 : World} {r : Option Nat} {fr : Fr} {H : List Chunk} {o : Oper} {R : Value → List Chunk → Prop} {op : BinOp} {t yt : TypeId} {x y : Operand} {a b m : Int} (ho : o.op = .binOp op t x y yt) (hx : ev fr x = .int .u64 a) (hy : ev fr y = .int .u64 b) (hm : intv op .u64 a b = some (.int .u64 (IntKind.u64.wrap m)))
    (h1 : 0 ≤ m) (h2 : m ≤ 18446744073709551615) (hk : R (.int .u64 m) H) : NV P w0 r fr H o R :=
  QV.nv P w0 r (fun c hc => by rw [ho] at hc; cases hc) (QV.arith_u64 ho hx hy hm h1 h2) hk
end Go.Sep
