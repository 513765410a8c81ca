import Derived.Test.YtjemdjjmpgjieaaS0
import Derived.Laws.Rows
import Derived.Laws.Build
import Derived.Laws.Entries
set_option linter.unusedVariables false
set_option linter.unusedSimpArgs false
/- What single operations answer that turn nothing in memory. -/
namespace Go.Sep
open Go Go.RowKit

/-- What is known of a program's types. -/
structure Tab (P : Program) where
  info : TypeId → Option TypeInfo
  desc : TypeId → Option TypeDesc
  hinfo : ∀ t i, info t = some i → P.info? t = some i
  hdesc : ∀ t d, desc t = some d → P.underlying t = some d

def loK : IntKind → Int
  | .i8 => -128 | .i16 => -32768 | .i32 => -2147483648 | .i64 => -9223372036854775808
  | _ => 0
def hiK : IntKind → Int
  | .i8 => 127 | .i16 => 32767 | .i32 => 2147483647 | .i64 => 9223372036854775807
  | .u8 => 255 | .u16 => 65535 | .u32 => 4294967295 | .u64 => 18446744073709551615
theorem wrap_in {k : IntKind} {n : Int} (h1 : loK k ≤ n) (h2 : n ≤ hiK k) : k.wrap n = n := by
  cases k <;> simp only [loK, hiK] at h1 h2 <;> simp [IntKind.wrap, IntKind.bits, IntKind.signed] <;> omega
theorem wrap_range (k : IntKind) (n : Int) : loK k ≤ k.wrap n ∧ k.wrap n ≤ hiK k := by
  cases k <;> simp only [loK, hiK, IntKind.wrap, IntKind.bits, IntKind.signed] <;> simp <;> omega

def andI (k : IntKind) (a b : Int) : Int := k.wrap (BitVec.ofInt k.bits a &&& BitVec.ofInt k.bits b).toNat
def orI (k : IntKind) (a b : Int) : Int := k.wrap (BitVec.ofInt k.bits a ||| BitVec.ofInt k.bits b).toNat
def xorI (k : IntKind) (a b : Int) : Int := k.wrap (BitVec.ofInt k.bits a ^^^ BitVec.ofInt k.bits b).toNat
def andNotI (k : IntKind) (a b : Int) : Int := k.wrap (BitVec.ofInt k.bits a &&& ~~~ BitVec.ofInt k.bits b).toNat

def intv (op : BinOp) (k : IntKind) (a b : Int) : Option Value :=
  match op with
  | .add => some (.int k (k.wrap (a + b)))
  | .sub => some (.int k (k.wrap (a - b)))
  | .mul => some (.int k (k.wrap (a * b)))
  | .and => some (.int k (andI k a b))
  | .or => some (.int k (orI k a b))
  | .xor => some (.int k (xorI k a b))
  | .andNot => some (.int k (andNotI k a b))
  | .eql => some (.bool (decide (a = b)))
  | .neq => some (.bool (!decide (a = b)))
  | .lss => some (.bool (decide (a < b)))
  | .leq => some (.bool (decide (a ≤ b)))
  | .gtr => some (.bool (decide (b < a)))
  | .geq => some (.bool (decide (b ≤ a)))
  | _ => none

def strv (op : BinOp) (a b : ByteArray) : Option Value :=
  match op with
  | .eql => some (.bool (a.toList == b.toList))
  | .neq => some (.bool !(a.toList == b.toList))
  | .lss => some (.bool (Op.bytesLess a.toList b.toList))
  | _ => none

/-- '==' where the type is plain. -/
def eqv (d : Option TypeDesc) (x y : Value) : Option Bool :=
  match x, y with
  | .bool a, .bool b => match d with | some .bool => some (a == b) | _ => none
  | .pointer none, .pointer b => match d with | some (.pointer _) => some b.isNone | _ => none
  | .pointer (some _), .pointer none => match d with | some (.pointer _) => some false | _ => none
  | .slice none _ _, .slice b _ _ => match d with | some (.slice _) => some b.isNone | _ => none
  | .slice (some _) _ _, .slice none _ _ => match d with | some (.slice _) => some false | _ => none
  | .nilFunc, .func _ _ _ => match d with | some (.func _ _ _) => some false | _ => none
  | .func _ _ _, .nilFunc => match d with | some (.func _ _ _) => some false | _ => none
  | .nilFunc, .nilFunc => match d with | some (.func _ _ _) => some true | _ => none
  | _, _ => none

def binv {P : Program} (T : Tab P) (op : BinOp) (t : TypeId) (x y : Value) : Option Value :=
  match x, y with
  | .int k a, .int k' b => if k = k' then intv op k a b else none
  | .string a, .string b => strv op a b
  | x, y => match op with
    | .eql => (eqv (T.desc t) x y).map Value.bool
    | .neq => (eqv (T.desc t) x y).map fun b => Value.bool !b
    | _ => none

def unv (op : UnOp) (x : Value) : Option Value :=
  match op, x with
  | .neg, .int k n => some (.int k (k.wrap (0 - n)))
  | .not, .bool b => some (.bool !b)
  | .xor, .int k n => some (.int k (xorI k (if k.signed then -1 else k.max) n))
  | _, _ => none

def isAggD : TypeDesc → Bool
  | .struct _ => true
  | .array _ _ => true
  | _ => false
def partv {P : Program} (T : Tab P) (t : TypeId) (cs : List Value) (off : Nat) : Option Value :=
  match T.desc t with
  | some d => match isAggD d with
    | true => match T.info t with
      | some i => some (.agg ((cs.drop off).take i.size).toArray)
      | none => none
    | false => cs[off]?
  | none => none

def lenv (x : Value) (d : Option TypeDesc) : Option Value :=
  match x with
  | .slice _ n _ => match d with | some (.slice _) => some (.int .i64 n) | _ => none
  | .string s => match d with | some .string => some (.int .i64 s.size) | _ => none
  | _ => match d with | some (.array n _) => some (.int .i64 n) | _ => none

def mnv (x y : Value) : Option Value :=
  match x, y with
  | .int k a, .int k' b => if k = k' then some (.int k (min a b)) else none
  | _, _ => none
def mxv (x y : Value) : Option Value :=
  match x, y with
  | .int k a, .int k' b => if k = k' then some (.int k (max a b)) else none
  | _, _ => none

def spliceL (cells : List Value) (off : Nat) (vs : List Value) : List Value := cells.take off ++ vs ++ cells.drop (off + vs.length)
def fillL (place : Nat → Option (Nat × Nat)) (cells : List Value) : List (Nat × Value) → Option (List Value)
  | [] => some cells
  | (i, v) :: rest =>
    match place i with
    | none => none
    | some (off, size) => cond (Nat.beq v.cells.toList.length size && Nat.ble (off + v.cells.toList.length) cells.length) (fillL place (spliceL cells off v.cells.toList) rest) none

def placesOf {P : Program} (T : Tab P) : List Field → Option (List (Nat × Nat))
  | [] => some []
  | f :: fs => match T.info f.type, placesOf T fs with
    | some i, some l => some ((f.offset, i.size) :: l)
    | _, _ => none

def buildv {P : Program} (T : Tab P) (t : TypeId) (parts : List (Nat × Value)) : Option Value :=
  match T.desc t, T.info t with
  | some (.struct fs), some i => match i.zero, placesOf T fs.toList with
    | some z, some pl => (fillL (fun j => pl[j]?) z.cells.toList parts).map fun l => Value.agg l.toArray
    | _, _ => none
  | some (.array _ e), some i => match i.zero, T.info e with
    | some z, some ie => (fillL (fun j => some (j * ie.size, ie.size)) z.cells.toList parts).map fun l => Value.agg l.toArray
    | _, _ => none
  | _, _ => none

def evs (fr : Fr) : List Operand → List Value
  | [] => []
  | x :: l => ev fr x :: evs fr l
def evp (fr : Fr) : List (Nat × Operand) → List (Nat × Value)
  | [] => []
  | (i, x) :: l => (i, ev fr x) :: evp fr l

/-- What an operation answers that looks at no memory. -/
def pev {P : Program} (T : Tab P) (fr : Fr) : Op → Option Value
  | .move x => some (ev fr x)
  | .assign x => some (ev fr x)
  | .pick c a b => match ev fr c with | .bool t => some (cond t (ev fr a) (ev fr b)) | _ => none
  | .binOp op t x y _ => binv T op t (ev fr x) (ev fr y)
  | .unOp op _ x => unv op (ev fr x)
  | .convert s d x => match ev fr x with
    | .int _ n => match T.desc s, T.desc d with | some _, some (.int k) => some (.int k (k.wrap n)) | _, _ => none
    | .string b => match T.desc s, T.desc d with | some _, some .string => some (.string b) | _, _ => none
    | _ => none
  | .extract x i => match ev fr x with | .tuple vs => vs.toList[i]? | _ => none
  | .build t parts => buildv T t (evp fr parts.toList)
  | .field t x i => match ev fr x, T.desc t with
    | .agg cs, some (.struct fs) => match fs.toList[i]? with | some f => partv T f.type cs.toList f.offset | none => none
    | _, _ => none
  | .index t x i => match ev fr x, T.desc t, ev fr i with
    | .agg cs, some (.array len e), .int _ j => match T.info e with
      | some ie => cond (decide (0 ≤ j) && decide (j < len)) (partv T e cs.toList (j.toNat * ie.size)) none
      | none => none
    | _, _, _ => none
  | .fieldAddr t x i => match ev fr x, T.desc t with
    | .pointer (some a), some (.struct fs) => match fs.toList[i]? with
      | some f => match T.info f.type with | some fi => cond (Nat.beq fi.size 0) none (some (.pointer (some (a.add f.offset)))) | none => none
      | none => none
    | _, _ => none
  | .makeInterface t x => match T.desc t with | some (.interface _) => none | some _ => some (.iface t (ev fr x)) | none => none
  | .makeFunc fn first cap => some (.func fn (evs fr first.toList).toArray (evs fr cap.toList).toArray)
  | .nilCheck x => match ev fr x with | .pointer (some a) => some (.pointer (some a)) | .func (.func f) a b => some (.func (.func f) a b) | _ => none
  | .call c => match c.callee, c.args.toList, c.argTypes.toList with
    | .builtin .len, [x], [t] => lenv (ev fr x) (T.desc t)
    | .builtin .min, [x, y], _ => mnv (ev fr x) (ev fr y)
    | .builtin .max, [x, y], _ => mxv (ev fr x) (ev fr y)
    | _, _, _ => none
  | _ => none

theorem ev_map (fr : Fr) (l : List Operand) : l.map (ev fr) = evs fr l := by
  induction l with
  | nil => rfl
  | cons x l ih => simp [evs, ih]
theorem evp_map (fr : Fr) (l : List (Nat × Operand)) : l.map (fun p => (p.1, ev fr p.2)) = evp fr l := by
  induction l with
  | nil => rfl
  | cons x l ih => simp [evp, ih]

section
variable {P : Program} {w0 : World} {N : Nat} {r : Option Nat} {fr : Fr} {ds : List Deferred} {H : List Chunk}

theorem run_ul (T : Tab P) {t : TypeId} {d : TypeDesc} (h : T.desc t = some d) (w : World) : (underlying t).run P w = .ok d w := run_underlying (T.hdesc t d h) w
theorem run_info (T : Tab P) {t : TypeId} {i : TypeInfo} (h : T.info t = some i) (w : World) : (typeInfo t).run P w = .ok i w := by
  simp [typeInfo, T.hinfo t i h]
theorem run_size (T : Tab P) {t : TypeId} {i : TypeInfo} (h : T.info t = some i) (w : World) : (sizeOf t).run P w = .ok i.size w := by
  simp [sizeOf, run_info T h]
theorem run_zero (T : Tab P) {t : TypeId} {i : TypeInfo} {z : Value} (h : T.info t = some i) (hz : i.zero = some z) (w : World) : (zeroValue t).run P w = .ok z w := by
  simp [zeroValue, run_info T h, hz]

theorem run_isAgg (T : Tab P) {t : TypeId} {d : TypeDesc} (h : T.desc t = some d) (w : World) : (isAgg t).run P w = .ok (isAggD d) w := by
  unfold isAgg
  cases d <;> simp [run_ul T h, isAggD]

theorem run_part (T : Tab P) {t : TypeId} {cs : Array Value} {off : Nat} {v : Value} (h : partv T t cs.toList off = some v) (w : World) : (part t cs off).run P w = .ok v w := by
  unfold partv at h
  unfold part
  have key : ∀ i : TypeInfo, cs.extract off (off + i.size) = ((cs.toList.drop off).take i.size).toArray := by
    intro i
    apply Array.ext'
    simp [Array.toList_extract, List.extract_eq_take_drop]
  cases hd : T.desc t with
  | none => simp [hd] at h
  | some d =>
    cases ha : isAggD d with
    | false =>
      simp only [hd, ha] at h
      have hcs : cs[off]? = some v := by simpa using h
      simp [run_isAgg T hd, ha, hcs]
    | true =>
      cases hi : T.info t with
      | none => simp [hd, ha, hi] at h
      | some i =>
        simp only [hd, ha, hi] at h
        cases h
        simp [run_isAgg T hd, ha, run_size T hi, key]

theorem fill_eq (place place' : Nat → Option (Nat × Nat)) (hp : ∀ i, place i = place' i) : ∀ (parts : List (Nat × Value)) (cells : List Value) (l : List Value), fillL place cells parts = some l → Instr.fill place' cells.toArray parts = some l.toArray
  | [], cells, l, h => by cases h; rfl
  | (i, v) :: rest, cells, l, h => by
    simp only [fillL] at h
    simp only [Instr.fill, ← hp i]
    cases hpi : place i with
    | none => simp [hpi] at h
    | some os =>
      obtain ⟨off, size⟩ := os
      simp only [hpi] at h
      cases hc : (Nat.beq v.cells.toList.length size && Nat.ble (off + v.cells.toList.length) cells.length) with
      | false => rw [hc] at h; cases h
      | true =>
        rw [hc] at h
        simp only [cond] at h
        simp only [Bool.and_eq_true] at hc
        have h1 : v.cells.size = size := by simpa using Nat.eq_of_beq_eq_true hc.1
        have h2 : off + v.cells.size ≤ cells.length := by simpa using Nat.le_of_ble_eq_true hc.2
        simp only []
        rw [if_neg (by simp; omega)]
        have key : ∀ (vs : List Value) (j : Nat) (cs : List Value), off + j + vs.length ≤ cs.length → (vs.zipIdx j).foldl (fun cs (x : Value × Nat) => Array.setIfInBounds cs (off + x.2) x.1) cs.toArray = (spliceL cs (off + j) vs).toArray := by
          intro vs
          induction vs with
          | nil => intro j cs _; simp [spliceL]
          | cons x vs ih =>
            intro j cs hl
            simp only [List.zipIdx_cons, List.foldl_cons, List.setIfInBounds_toArray]
            have hl' : off + (j + 1) + vs.length ≤ (cs.set (off + j) x).length := by simp at hl ⊢; omega
            rw [ih (j + 1) (cs.set (off + j) x) hl']
            congr 1
            simp only [spliceL]
            simp only [List.length_cons] at hl
            apply List.ext_getElem?
            intro n
            simp only [List.getElem?_append, List.getElem?_take, List.getElem?_drop, List.length_append, List.length_take, List.length_set, List.length_cons, List.getElem?_set, List.getElem?_cons]
            grind
        have := key v.cells.toList 0 cells (by simpa using h2)
        rw [← Array.foldl_toList]
        simp only [Array.toList_zipIdx, Nat.add_zero] at this ⊢
        rw [this]
        exact fill_eq place place' hp rest _ l h

theorem places_eq (T : Tab P) : ∀ (fs : List Field) (pl : List (Nat × Nat)), placesOf T fs = some pl → fs.mapM (fun f => (P.info? f.type).map fun i => (f.offset, i.size)) = some pl
  | [], pl, h => by cases h; rfl
  | f :: fs, pl, h => by
    simp only [placesOf] at h
    cases hi : T.info f.type with
    | none => simp [hi] at h
    | some i =>
      cases hl : placesOf T fs with
      | none => simp [hi, hl] at h
      | some l =>
        simp only [hi, hl] at h
        cases h
        simp [List.mapM_cons, T.hinfo _ _ hi, places_eq T fs l hl]

theorem run_buildv (T : Tab P) {t : TypeId} {parts : Array (Nat × Value)} {v : Value} (h : buildv T t parts.toList = some v) (w : World) : (Instr.build t parts).run P w = .ok v w := by
  unfold buildv at h
  cases hd : T.desc t with
  | none => simp [hd] at h
  | some d =>
    cases hi : T.info t with
    | none => cases d <;> simp [hd, hi] at h
    | some i =>
      cases hz : i.zero with
      | none => cases d <;> simp [hd, hi, hz] at h
      | some z =>
        cases d with
        | struct fs =>
          cases hp : placesOf T fs.toList with
          | none => simp [hd, hi, hz, hp] at h
          | some pl =>
            simp only [hd, hi, hz, hp, Option.map_eq_some_iff] at h
            obtain ⟨l, hl, rfl⟩ := h
            refine run_build w t parts l.toArray ?_
            have := fill_eq (fun j => pl[j]?) (fun x => pl.toArray[x]?) (fun i => by simp) parts.toList z.cells.toList l hl
            simp only [Program.built, T.hinfo _ _ hi, T.hdesc _ _ hd, hz, places_eq T _ _ hp]
            simpa using this
        | array n e =>
          cases hie : T.info e with
          | none => simp [hd, hi, hz, hie] at h
          | some ie =>
            simp only [hd, hi, hz, hie, Option.map_eq_some_iff] at h
            obtain ⟨l, hl, rfl⟩ := h
            refine run_build w t parts l.toArray ?_
            have := fill_eq _ (fun i => some (i * ie.size, ie.size)) (fun _ => rfl) parts.toList z.cells.toList l hl
            simp only [Program.built, T.hinfo _ _ hi, T.hdesc _ _ hd, hz, T.hinfo _ _ hie]
            simpa using this
        | _ => simp [hd, hi] at h

theorem run_eqv (T : Tab P) {t : TypeId} {x y : Value} {b : Bool} (h : eqv (T.desc t) x y = some b) (w : World) : (Op.equal t x y).run P w = .ok b w := by
  unfold Op.equal Op.maxDepth
  rw [show (10000 : Nat) = 9999 + 1 from rfl]
  generalize (9999 : Nat) = D
  unfold eqv at h
  cases hd : T.desc t with
  | none => rw [hd] at h; split at h <;> cases h
  | some d =>
    rw [hd] at h
    split at h <;> (try cases h) <;> cases d <;> (try cases h) <;> simp [Op.equalIn, run_ul T hd]

theorem run_intv {op : BinOp} {t : TypeId} {k : IntKind} {a b : Int} {v : Value} (h : intv op k a b = some v) (w : World) : (binOp op t (.int k a) (.int k b)).run P w = .ok v w := by
  cases op <;> simp only [intv, Option.some.injEq, reduceCtorEq] at h <;> subst h <;>
    simp [binOp, Op.intArith, Op.intBits, Op.intCmp, andI, orI, xorI, andNotI] <;> rfl

theorem run_strv {op : BinOp} {t : TypeId} {a b : ByteArray} {v : Value} (h : strv op a b = some v) (w : World) : (binOp op t (.string a) (.string b)).run P w = .ok v w := by
  cases op <;> simp only [strv, Option.some.injEq, reduceCtorEq] at h <;> subst h <;> simp [binOp, Op.stringOp]

theorem run_binv (T : Tab P) {op : BinOp} {t : TypeId} {x y : Value} {v : Value} (h : binv T op t x y = some v) (w : World) : (binOp op t x y).run P w = .ok v w := by
  unfold binv at h
  split at h
  · split at h
    · rename_i e; subst e; exact run_intv h w
    · cases h
  · exact run_strv h w
  · split at h
    · simp only [Option.map_eq_some_iff] at h
      obtain ⟨b, hb, rfl⟩ := h
      have := run_eqv T hb w
      cases x <;> cases y <;> first
        | (simp [binOp, this]; done)
        | (simp [eqv] at hb; done)
        | (split at hb <;> simp_all [eqv])
    · simp only [Option.map_eq_some_iff] at h
      obtain ⟨b, hb, rfl⟩ := h
      have := run_eqv T hb w
      cases x <;> cases y <;> first
        | (simp [binOp, this]; done)
        | (simp [eqv] at hb; done)
        | (split at hb <;> simp_all [eqv])
    · cases h

theorem run_eqGuard (op : BinOp) (T : Tab P) {t : TypeId} (x y : Operand) {a b : Value} {v : Value} (h : binv T op t a b = some v) (w : World) : (eqGuard op t x y a b).run P w = .ok () w := by
  unfold eqGuard
  cases op <;> simp
  all_goals
    cases a <;> cases b <;> first
      | rfl
      | (simp [binv, eqv] at h; done)
      | (simp [Sem.run]; done)

theorem run_unv {op : UnOp} {x v : Value} (h : unv op x = some v) (w : World) : (Op.unary op x).run P w = .ok v w := by
  cases op <;> cases x <;> simp only [unv, Option.some.injEq, reduceCtorEq] at h <;> subst h <;> simp [Op.unary, Op.intArith, Op.intBits, xorI]

theorem run_lenv (T : Tab P) {t ty : TypeId} {x v : Value} (h : lenv x (T.desc t) = some v) (w : World) : (Builtin.len_ #[t] ty #[x]).run P w = .ok v w := by
  unfold lenv at h
  cases hd : T.desc t with
  | none => rw [hd] at h; split at h <;> cases h
  | some d =>
    rw [hd] at h
    split at h <;> cases d <;> (try cases h) <;> simp [Builtin.len_, run_ul T hd, goInt]

theorem run_mnv {x y v : Value} (h : mnv x y = some v) (a : Array TypeId) (t : TypeId) (w : World) : (Builtin.min_ a t #[x, y]).run P w = .ok v w := by
  unfold mnv at h
  split at h
  · split at h
    · rename_i _ _ k a _ b e; subst e; cases h
      have : (if b < a then b else a) = min a b := by rw [Int.min_def]; split <;> split <;> omega
      simp [Builtin.min_, Builtin.min2, this]
    · cases h
  · cases h
theorem run_mxv {x y v : Value} (h : mxv x y = some v) (a : Array TypeId) (t : TypeId) (w : World) : (Builtin.max_ a t #[x, y]).run P w = .ok v w := by
  unfold mxv at h
  split at h
  · split at h
    · rename_i _ _ k a _ b e; subst e; cases h
      have : (if b > a then b else a) = max a b := by rw [Int.max_def]; split <;> split <;> omega
      simp [Builtin.max_, Builtin.max2, this]
    · cases h
  · cases h

theorem run_convv (T : Tab P) {s d : TypeId} {x v : Value} {k : IntKind} {n : Int} {ds : TypeDesc} (hx : x = .int k n) (h1 : T.desc s = some ds) {k' : IntKind} (h2 : T.desc d = some (.int k')) (hv : v = .int k' (k'.wrap n)) (w : World) : (convert s d x).run P w = .ok v w := by
  subst hx hv
  unfold convert
  simp [run_ul T h1, run_ul T h2, Conv.intToInt]

theorem pev_sound (T : Tab P) {o : Oper} {v : Value} (h : pev T fr o.op = some v) : QV P w0 fr H o v := by
  intro w _
  unfold execOp
  cases ho : o.op with
  | move x => rw [ho] at h; cases h; rfl
  | assign x => rw [ho] at h; cases h; rfl
  | pick c a b =>
    rw [ho] at h
    simp only [pev] at h
    split at h
    · rename_i t hc
      cases h
      cases t <;> simp [hc, asBool]
    · cases h
  | binOp op t x y yt =>
    rw [ho] at h
    simp only [pev] at h
    simp [run_binv T h, run_eqGuard op T x y h]
  | unOp op t x =>
    rw [ho] at h
    simp only [pev] at h
    simp [run_unv h]
  | convert s d x =>
    rw [ho] at h
    simp only [pev] at h
    split at h
    · rename_i k n hx
      cases hs : T.desc s with
      | none => simp [hs] at h
      | some sd =>
        cases hd : T.desc d with
        | none => simp [hs, hd] at h
        | some dd =>
          cases dd <;> simp only [hs, hd, Option.some.injEq, reduceCtorEq] at h
          simp [run_convv T hx hs hd h.symm]
    · rename_i b hx
      cases hs : T.desc s with
      | none => simp [hs] at h
      | some sd =>
        cases hd : T.desc d with
        | none => simp [hs, hd] at h
        | some dd =>
          cases dd <;> simp only [hs, hd, Option.some.injEq, reduceCtorEq] at h
          subst h
          simp [convert, hx, run_ul T hs, run_ul T hd]
    · cases h
  | extract x i =>
    rw [ho] at h
    simp only [pev] at h
    split at h
    · rename_i vs hx
      have : vs[i]? = some v := by simpa using h
      simp [Instr.extract, hx, this]
    · cases h
  | build t parts =>
    rw [ho] at h
    simp only [pev] at h
    have : (parts.map fun (p : Nat × Operand) => (p.1, ev fr p.2)) = (evp fr parts.toList).toArray := by
      apply Array.ext'
      simp [← evp_map]
    have h2 := run_buildv T (parts := (evp fr parts.toList).toArray) (by simpa using h) w
    rw [← this] at h2
    simp [h2]
  | field t x i =>
    rw [ho] at h
    simp only [pev] at h
    cases hx : ev fr x <;> simp only [hx, reduceCtorEq] at h
    rename_i cs
    cases hd : T.desc t with
    | none => simp [hd] at h
    | some d =>
      cases d <;> simp only [hd, reduceCtorEq] at h
      rename_i fs
      cases hf : fs.toList[i]? with
      | none => simp [hf] at h
      | some f =>
        simp only [hf] at h
        have hf' : fs[i]? = some f := by simpa using hf
        simp [Instr.field, run_ul T hd, hf', asAgg, run_part T h, hx]
  | index t x i =>
    rw [ho] at h
    simp only [pev] at h
    cases hx : ev fr x <;> simp only [hx, reduceCtorEq] at h
    rename_i cs
    cases hd : T.desc t with
    | none => simp [hd] at h
    | some d =>
      cases d <;> simp only [hd, reduceCtorEq] at h
      rename_i len e
      cases hi : ev fr i <;> simp only [hi, reduceCtorEq] at h
      rename_i k j
      cases hie : T.info e with
      | none => simp [hie] at h
      | some ie =>
        simp only [hie] at h
        cases hc : (decide (0 ≤ j) && decide (j < (len : Int))) with
        | false => rw [hc] at h; cases h
        | true =>
          rw [hc] at h
          simp only [Bool.and_eq_true, decide_eq_true_eq] at hc
          simp [Instr.index, asIntOf, hi, run_ul T hd, hx, hc.1, hc.2, run_size T hie, run_part T h]
  | fieldAddr t x i =>
    rw [ho] at h
    simp only [pev] at h
    cases hx : ev fr x with
    | pointer a =>
      cases a with
      | none => simp [hx] at h
      | some a =>
        cases hd : T.desc t with
        | none => simp [hx, hd] at h
        | some d =>
          cases d <;> simp only [hx, hd, reduceCtorEq] at h
          rename_i fs
          cases hf : fs.toList[i]? with
          | none => simp [hf] at h
          | some f =>
            cases hfi : T.info f.type with
            | none => simp [hf, hfi] at h
            | some fi =>
              simp only [hf, hfi] at h
              cases hz : Nat.beq fi.size 0 with
              | true => rw [hz] at h; cases h
              | false =>
                rw [hz] at h
                cases h
                have hne : fi.size ≠ 0 := fun e => by rw [e] at hz; cases hz
                have hf' : fs[i]? = some f := by simpa using hf
                simp [Instr.fieldAt, run_ul T hd, hf', Instr.sureAddr, hx, fieldPlace, run_size T hfi, hne]
    | _ => simp [hx] at h
  | makeInterface t x =>
    rw [ho] at h
    simp only [pev] at h
    cases hd : T.desc t with
    | none => simp [hd] at h
    | some d =>
      cases d <;> simp only [hd, Option.some.injEq, reduceCtorEq] at h <;> subst h <;> simp [Instr.makeInterface, run_ul T hd]
  | makeFunc fn first cap =>
    rw [ho] at h
    simp only [pev, Option.some.injEq] at h
    subst h
    have h1 : ∀ l : Array Operand, l.map (ev fr) = (evs fr l.toList).toArray := by
      intro l; apply Array.ext'; simp [← ev_map]
    simp [Instr.makeFunc, h1]
  | nilCheck x =>
    rw [ho] at h
    simp only [pev] at h
    split at h <;> (try cases h) <;> rename_i hx <;> simp [hx]
  | call c =>
    rw [ho] at h
    simp only [pev] at h
    split at h
    · rename_i x t hc ha ht
      have ha' : c.args = #[x] := by apply Array.ext'; simpa using ha
      have ht' : c.argTypes = #[t] := by apply Array.ext'; simpa using ht
      simp [resolve, hc, ha', ht', invoke, builtin, run_lenv T h]
    · rename_i _ x y hc ha
      have ha' : c.args = #[x, y] := by apply Array.ext'; simpa using ha
      simp [resolve, hc, ha', invoke, builtin, run_mnv h]
    · rename_i _ x y hc ha
      have ha' : c.args = #[x, y] := by apply Array.ext'; simpa using ha
      simp [resolve, hc, ha', invoke, builtin, run_mxv h]
    · cases h
  | _ => rw [ho] at h; cases h

theorem pev_nodefer (T : Tab P) {o : Oper} {v : Value} (h : pev T fr o.op = some v) : ∀ c, o.op ≠ .defer c := by
  intro c hc; rw [hc] at h; cases h

/-- A step that looks at no memory. -/
theorem NV.pure (T : Tab P) {o : Oper} {R : Value → List Chunk → Prop} {v : Value} (hv : pev T fr o.op = some v) (hk : R v H) : NV P w0 r fr H o R :=
  QV.nv P w0 r (pev_nodefer T hv) (pev_sound T hv) hk
/-- The next step of a region. -/
theorem RL.step {ops : Array Oper} {l : List Oper} {o : Oper} {K : Cont} {dd : Option Tmp} (hg : Gd ops fr o) (hd : o.dst = dd) (hN : dstOK N dd = true)
    (h : NV P w0 r fr H o fun v H' => RL P w0 N r ops l (putF fr dd v) ds H' K) : RL P w0 N r ops (o :: l) fr ds H K := by
  subst hd; exact RL.nv P w0 N r hg hN h
theorem NV.conv {o : Oper} {R R' : Value → List Chunk → Prop} (h : NV P w0 r fr H o R') (hr : ∀ v H', R' v H' → ∃ H'', (∀ w, Sat w0 w H' → Sat w0 w H'') ∧ R v H'') : NV P w0 r fr H o R := by
  refine ⟨h.1, fun w hw => ?_⟩
  have hu := h.2 w hw
  cases hx : (execOp (ev fr) o).run P w with
  | halt => rw [hx] at hu; exact hu.elim
  | ok n w' =>
    rw [hx] at hu
    cases n <;> first
      | exact hu.elim
      | (obtain ⟨H', s, q⟩ := hu; obtain ⟨H'', h1, h2⟩ := hr _ _ q; exact ⟨H'', h1 _ s, h2⟩)
      | exact Calls.mono hu fun _ _ ⟨v, H', e, s, q⟩ => let ⟨H'', h1, h2⟩ := hr _ _ q; ⟨v, H'', e, h1 _ s, h2⟩
      | exact RoundIn.mono hu fun _ _ ⟨v, H', e, s, q⟩ => let ⟨H'', h1, h2⟩ := hr _ _ q; ⟨v, H'', e, h1 _ s, h2⟩
end
end Go.Sep
