import Derived.Test.YtjemdjjmpgjieaaS1
import Derived.Laws.Cells
import Derived.Laws.CopyRow
import Derived.Laws.MakeOwn
import Derived.Laws.OwnMore
set_option linter.unusedVariables false
set_option linter.unusedSimpArgs false
/- What operations do that read or write memory. -/
namespace Go.Sep
open Go Go.RowKit

/-- A cell that reads so wherever H holds. -/
def Cell (w0 : World) (H : List Chunk) (p : Addr) (v : Value) : Prop := ∀ w, Sat w0 w H → w.cell? p = some v

def pa (a : Option Addr) : Addr := a.getD ⟨0, 0, none⟩

/-- A slice whose elements' cells read so wherever H holds. -/
structure Rd (w0 : World) (H : List Chunk) (a : Option Addr) (n c : Nat) (sz : Nat) (xs : List Value) : Prop where
  len : xs.length = n * sz
  cap : n ≤ c
  some : 0 < n → a.isSome = true
  cell : ∀ p, a = Option.some p → ∀ j v, xs[j]? = Option.some v → Cell w0 H (p.add j) v

theorem add_add (p : Addr) (i j : Nat) : (p.add i).add j = p.add (i + j) := by
  unfold Addr.add
  by_cases hi : i = 0 <;> by_cases hj : j = 0 <;> simp_all [Nat.add_assoc]

section
variable {P : Program} {w0 : World} {N : Nat} {r : Option Nat} {fr : Fr} {ds : List Deferred} {H : List Chunk}

theorem Cell.old {p : Addr} {v : Value} (h : w0.cell? p = some v) : Cell w0 H p v :=
  fun w hw => (hw.below.cell (World.block_lt_of_cell? w0 p h)).trans h
theorem Cell.weaken {H' : List Chunk} {p : Addr} {v : Value} (hH : ∀ w, Sat w0 w H' → Sat w0 w H) (h : Cell w0 H p v) : Cell w0 H' p v := fun w hw => h w (hH w hw)
theorem Cell.var {b : Nat} {t : TypeId} {cells : List Value} {k : Chunk → List Chunk} {o : Nat} {v : Value} (h : At H (.var b t cells) k) (hv : cells[o]? = some v) : Cell w0 H ⟨b, o, none⟩ v := by
  intro w hw
  obtain ⟨_, hb⟩ := hw.holds _ h.mem
  rw [cell_of_row w b o _ _ _ hb]
  simpa using hv
theorem Cell.row {a : Addr} {n c e sz : Nat} {xs : List Value} {k : Chunk → List Chunk} {j : Nat} {v : Value} (h : At H (.row (some a) n c e sz xs) k) (hv : xs[j]? = some v) : Cell w0 H (a.add j) v := by
  intro w hw
  have ho := hw.holds _ h.mem
  rcases ho.2 with ⟨h1, _⟩ | ⟨g, cap, cur, h1, _⟩
  · cases h1
  · cases h1
    exact World.ownsRow.cells ho rfl j v hv

theorem Rd.weaken {H' : List Chunk} {a : Option Addr} {n c sz : Nat} {xs : List Value} (hH : ∀ w, Sat w0 w H' → Sat w0 w H) (h : Rd w0 H a n c sz xs) : Rd w0 H' a n c sz xs :=
  ⟨h.len, h.cap, h.some, fun p hp j v hj => (h.cell p hp j v hj).weaken hH⟩
theorem Rd.row {a : Option Addr} {n c e sz : Nat} {xs : List Value} {k : Chunk → List Chunk} (h : At H (.row a n c e sz xs) k) (hs : ∃ w, Sat w0 w H) : Rd w0 H a n c sz xs := by
  obtain ⟨_, hw⟩ := hs
  have ho := hw.holds _ h.mem
  refine ⟨ho.1, ?_, fun hn => ?_, fun p hp j v hj => ?_⟩
  · rcases ho.2 with ⟨h1, h2⟩ | ⟨g, cap, cur, h1, _, _, h2, _⟩
    · cases h1; omega
    · cases h1; exact h2
  · rcases ho.2 with ⟨h1, h2⟩ | ⟨g, cap, cur, h1, _⟩
    · omega
    · cases h1; rfl
  · subst hp; exact Cell.row h hj
theorem Rd.cons {x : Chunk} {a : Option Addr} {n c sz : Nat} {xs : List Value} (h : Rd w0 H a n c sz xs) : Rd w0 (x :: H) a n c sz xs := h.weaken fun _ => Sat.tail

/-- Wherever H holds nowhere, all is well. -/
theorem SW.sat {c : Code} {Q : Post} (h : (∃ w, Sat w0 w H) → SW P w0 N r c fr ds H Q) : SW P w0 N r c fr ds H Q := fun tmps w hr hs => h ⟨w, hs⟩ tmps w hr hs
theorem RL.sat {ops : Array Oper} {l : List Oper} {K : Cont} (h : (∃ w, Sat w0 w H) → RL P w0 N r ops l fr ds H K) : RL P w0 N r ops l fr ds H K := fun tmps w idx hi hr hs => h ⟨w, hs⟩ tmps w idx hi hr hs
theorem SC.sat {f : FuncId} {args : Array Value} {R : Value → List Chunk → Prop} (h : (∃ w, Sat w0 w H) → SC P w0 f args H R) : SC P w0 f args H R := fun w hs => h ⟨w, hs⟩ w hs
theorem NV.sat {o : Oper} {R : Value → List Chunk → Prop} (h : (∃ w, Sat w0 w H) → NV P w0 r fr H o R) (hd : ∀ c, o.op ≠ .defer c) : NV P w0 r fr H o R := ⟨hd, fun w hw => (h ⟨w, hw⟩).2 w hw⟩
theorem RL.drop {ops : Array Oper} {l : List Oper} {K : Cont} {x : Chunk} (h : RL P w0 N r ops l fr ds H K) : RL P w0 N r ops l fr ds (x :: H) K := fun tmps w idx hi hr hs => h tmps w idx hi hr hs.tail
theorem RL.perm {ops : Array Oper} {l : List Oper} {K : Cont} {H' : List Chunk} (p : H.Perm H') (h : RL P w0 N r ops l fr ds H' K) : RL P w0 N r ops l fr ds H K := fun tmps w idx hi hr hs => h tmps w idx hi hr (hs.perm p)

/-! ### loads -/
theorem QV.load1 (T : Tab P) {o : Oper} {t : TypeId} {x : Operand} {p : Addr} {v : Value} {d : TypeDesc} (ho : o.op = .load t x) (hx : ev fr x = .pointer (some p)) (hd : T.desc t = some d) (ha : isAggD d = false)
    (h : Cell w0 H p v) : QV P w0 fr H o v := by
  intro w hw
  simp [execOp, ho, Instr.loadAt, Instr.sureAddr, hx, loadVar, run_isAgg T hd, ha, h w hw]

theorem QV.loadN (T : Tab P) {o : Oper} {t : TypeId} {x : Operand} {p : Addr} {vs : List Value} {d : TypeDesc} {i : TypeInfo} (ho : o.op = .load t x) (hx : ev fr x = .pointer (some p)) (hd : T.desc t = some d) (ha : isAggD d = true)
    (hi : T.info t = some i) (hl : i.size = vs.length) (h : ∀ j v, vs[j]? = some v → Cell w0 H (p.add j) v) : QV P w0 fr H o (.agg vs.toArray) := by
  intro w hw
  have := run_loadCells_list (P := P) w p vs (fun j v hj => h j v hj w hw)
  simp [execOp, ho, Instr.loadAt, Instr.sureAddr, hx, loadVar, run_isAgg T hd, ha, run_size T hi, hl, this]

/-- The cells of a variable from a place on. -/
theorem Cell.vars {b : Nat} {t : TypeId} {cells : List Value} {k : Chunk → List Chunk} {o n : Nat} (h : At H (.var b t cells) k) : ∀ j v, ((cells.drop o).take n)[j]? = some v → Cell w0 H ((⟨b, o, none⟩ : Addr).add j) v := by
  intro j v hj
  rw [Addr.add_lit]
  refine Cell.var h ?_
  rw [List.getElem?_take] at hj
  split at hj
  · simpa using hj
  · cases hj

theorem NV.load_var1 (T : Tab P) {o : Oper} {R : Value → List Chunk → Prop} {t : TypeId} {x : Operand} {b j : Nat} {v : Value} {d : TypeDesc} {tb : TypeId} {cells : List Value} {k : Chunk → List Chunk}
    (ho : o.op = .load t x) (hx : ev fr x = .pointer (some ⟨b, j, none⟩)) (hd : T.desc t = some d) (ha : isAggD d = false)
    (hat : At H (.var b tb cells) k) (hv : cells[j]? = some v) (hk : R v H) : NV P w0 r fr H o R :=
  QV.nv P w0 r (fun c hc => by rw [ho] at hc; cases hc) (QV.load1 T ho hx hd ha (Cell.var hat hv)) hk

theorem NV.load_varN (T : Tab P) {o : Oper} {R : Value → List Chunk → Prop} {t : TypeId} {x : Operand} {b j : Nat} {vs : List Value} {d : TypeDesc} {i : TypeInfo} {tb : TypeId} {cells : List Value} {k : Chunk → List Chunk}
    (ho : o.op = .load t x) (hx : ev fr x = .pointer (some ⟨b, j, none⟩)) (hd : T.desc t = some d) (ha : isAggD d = true) (hi : T.info t = some i)
    (hat : At H (.var b tb cells) k) (hv : (cells.drop j).take i.size = vs) (hl : i.size = vs.length) (hk : R (.agg vs.toArray) H) : NV P w0 r fr H o R := by
  subst hv
  exact QV.nv P w0 r (fun c hc => by rw [ho] at hc; cases hc) (QV.loadN T ho hx hd ha hi hl (Cell.vars hat)) hk

theorem NV.load_cell (T : Tab P) {o : Oper} {R : Value → List Chunk → Prop} {t : TypeId} {x : Operand} {p : Addr} {v : Value} {d : TypeDesc}
    (ho : o.op = .load t x) (hx : ev fr x = .pointer (some p)) (hd : T.desc t = some d) (ha : isAggD d = false)
    (hc : Cell w0 H p v) (hk : R v H) : NV P w0 r fr H o R :=
  QV.nv P w0 r (fun c hc => by rw [ho] at hc; cases hc) (QV.load1 T ho hx hd ha hc) hk

theorem NV.load_cells (T : Tab P) {o : Oper} {R : Value → List Chunk → Prop} {t : TypeId} {x : Operand} {p : Addr} {vs : List Value} {d : TypeDesc} {i : TypeInfo}
    (ho : o.op = .load t x) (hx : ev fr x = .pointer (some p)) (hd : T.desc t = some d) (ha : isAggD d = true) (hi : T.info t = some i)
    (hl : i.size = vs.length) (hc : ∀ j v, vs[j]? = some v → Cell w0 H (p.add j) v) (hk : R (.agg vs.toArray) H) : NV P w0 r fr H o R :=
  QV.nv P w0 r (fun c hc => by rw [ho] at hc; cases hc) (QV.loadN T ho hx hd ha hi hl hc) hk

/-! ### addresses of elements -/
theorem QV.indexAddr_slice (T : Tab P) {o : Oper} {t e : TypeId} {x i : Operand} {a : Option Addr} {n c : Nat} {k : IntKind} {j : Int} {ie : TypeInfo} (ho : o.op = .indexAddr t x i) (hx : ev fr x = .slice a n c) (hi : ev fr i = .int k j)
    (hd : T.desc t = some (.slice e)) (he : T.info e = some ie) (ha : a.isSome = true) (h0 : 0 ≤ j) (h1 : j < n) : QV P w0 fr H o (.pointer (some ((pa a).add (j.toNat * ie.size)))) := by
  intro w _
  cases a with
  | none => cases ha
  | some a => simp [execOp, ho, Instr.indexAt, hx, hi, asIntOf, run_ul T hd, h0, h1, run_size T he, pa]

theorem QV.indexAddr_array (T : Tab P) {o : Oper} {t e : TypeId} {x i : Operand} {a : Addr} {n : Nat} {k : IntKind} {j : Int} {ie : TypeInfo} (ho : o.op = .indexAddr t x i) (hx : ev fr x = .pointer (some a)) (hi : ev fr i = .int k j)
    (hd : T.desc t = some (.array n e)) (he : T.info e = some ie) (h0 : 0 ≤ j) (h1 : j < n) : QV P w0 fr H o (.pointer (some (a.add (j.toNat * ie.size)))) := by
  intro w _
  simp [execOp, ho, Instr.indexAt, hx, hi, asIntOf, run_ul T hd, h0, h1, run_size T he, Instr.sureAddr]

theorem NV.index_slice (T : Tab P) {o : Oper} {R : Value → List Chunk → Prop} {t e : TypeId} {x i : Operand} {a : Option Addr} {n c sz : Nat} {k : IntKind} {j : Int} {ie : TypeInfo} {xs : List Value}
    (ho : o.op = .indexAddr t x i) (hx : ev fr x = .slice a n c) (hi : ev fr i = .int k j)
    (hd : T.desc t = some (.slice e)) (he : T.info e = some ie) (hR : Rd w0 H a n c sz xs) (h0 : 0 ≤ j) (h1 : j < n)
    (hk : R (.pointer (some ((pa a).add (j.toNat * ie.size)))) H) : NV P w0 r fr H o R :=
  QV.nv P w0 r (fun c hc => by rw [ho] at hc; cases hc) (QV.indexAddr_slice T ho hx hi hd he (hR.some (by omega)) h0 h1) hk

theorem NV.index_array (T : Tab P) {o : Oper} {R : Value → List Chunk → Prop} {t e : TypeId} {x i : Operand} {a : Addr} {n : Nat} {k : IntKind} {j : Int} {ie : TypeInfo}
    (ho : o.op = .indexAddr t x i) (hx : ev fr x = .pointer (some a)) (hi : ev fr i = .int k j)
    (hd : T.desc t = some (.array n e)) (he : T.info e = some ie) (h0 : 0 ≤ j) (h1 : j < n)
    (hk : R (.pointer (some (a.add (j.toNat * ie.size)))) H) : NV P w0 r fr H o R :=
  QV.nv P w0 r (fun c hc => by rw [ho] at hc; cases hc) (QV.indexAddr_array T ho hx hi hd he h0 h1) hk

theorem Rd.at {a : Option Addr} {n c : Nat} {xs : List Value} (h : Rd w0 H a n c 1 xs) {j : Nat} {v : Value} (hv : xs[j]? = Option.some v) : Cell w0 H ((pa a).add (j * 1)) v := by
  have hj : j < xs.length := by
    rcases Nat.lt_or_ge j xs.length with h | h
    · exact h
    · rw [List.getElem?_eq_none h] at hv; cases hv
  cases a with
  | none =>
    have := h.some (by have := h.len; omega)
    cases this
  | some p => simpa [pa] using h.cell p rfl j v hv

theorem Rd.atN {a : Option Addr} {n c sz : Nat} {xs : List Value} (h : Rd w0 H a n c sz xs) {j o : Nat} {v : Value} (hv : xs[j * sz + o]? = Option.some v) : Cell w0 H (((pa a).add (j * sz)).add o) v := by
  have hj : j * sz + o < xs.length := by
    rcases Nat.lt_or_ge (j * sz + o) xs.length with h | h
    · exact h
    · rw [List.getElem?_eq_none h] at hv; cases hv
  have hn : 0 < n := by
    have := h.len
    rcases Nat.eq_zero_or_pos n with h0 | h0
    · subst h0; simp at this; subst this; simp at hj
    · exact h0
  cases a with
  | none => cases h.some hn
  | some p =>
    rw [add_add]
    exact h.cell p rfl _ v hv

/-- An element of a slice of one-cell elements is read. -/
theorem NV.load_elem (T : Tab P) {o : Oper} {R : Value → List Chunk → Prop} {t : TypeId} {x : Operand} {a : Option Addr} {n c : Nat} {j : Nat} {v : Value} {d : TypeDesc} {xs : List Value}
    (ho : o.op = .load t x) (hx : ev fr x = .pointer (some ((pa a).add (j * 1)))) (hd : T.desc t = some d) (ha : isAggD d = false)
    (hR : Rd w0 H a n c 1 xs) (hv : xs[j]? = some v) (hk : R v H) : NV P w0 r fr H o R :=
  NV.load_cell T ho hx hd ha (hR.at hv) hk

/-! ### new memory -/
theorem Sat.alloc {w : World} (h : Sat w0 w H) (cells : List Value) (t : TypeId) : Sat w0 (w.alloc (.cells cells.toArray t)) (.var w.heap.size t cells :: H) :=
  Sat.new h (.alloc (.refl _ _) h.below.size _) (fun b hb => Below.heap_alloc _ _ _ hb) ⟨h.below.size, heap_alloc_new _ _⟩ (fun b hb => by cases hb; exact Nat.le_refl _)

theorem NV.alloc (T : Tab P) {o : Oper} {R : Value → List Chunk → Prop} {t : TypeId} {i : TypeInfo} {z : Value} {cells : List Value}
    (ho : o.op = .alloc t) (hi : T.info t = some i) (hz : i.zero = some z) (hc : z.cells.toList = cells)
    (hk : ∀ b, R (.pointer (some ⟨b, 0, none⟩)) (.var b t cells :: H)) : NV P w0 r fr H o R := by
  subst hc
  refine ⟨fun c hc => (by rw [ho] at hc; cases hc), fun w hw => ?_⟩
  simp only [execOp, ho, Instr.alloc, Sem.run_bind, run_zero T hi hz, Result.andThen_ok, newVar, newRow, run_newObj, Sem.run_pure, World.alloc_eq]
  exact ⟨_, by simpa using Sat.alloc hw z.cells.toList t, hk _⟩

theorem NV.box {o : Oper} {R : Value → List Chunk → Prop} {t : TypeId} {x : Operand} {cells : List Value}
    (ho : o.op = .box t x) (hc : (ev fr x).cells.toList = cells)
    (hk : ∀ b, R (.pointer (some ⟨b, 0, none⟩)) (.var b t cells :: H)) : NV P w0 r fr H o R := by
  subst hc
  refine ⟨fun c hc => (by rw [ho] at hc; cases hc), fun w hw => ?_⟩
  simp only [execOp, ho, Instr.box, Sem.run_bind, Result.andThen_ok, newVar, newRow, run_newObj, Sem.run_pure, World.alloc_eq]
  exact ⟨_, by simpa using Sat.alloc hw (ev fr x).cells.toList t, hk _⟩

theorem Sat.newRow {w : World} (h : Sat w0 w H) (cells : Array Value) (e : TypeId) (sz n c : Nat) (hc : cells.size = c * sz) (hn : n ≤ c) (hm : c ≤ maxLen) :
    Sat w0 (w.alloc (.cells cells e)) (.row (some ⟨w.heap.size, 0, none⟩) n c e sz (cells.toList.take (n * sz)) :: H) := by
  refine Sat.new h (.alloc (.refl _ _) h.below.size _) (fun b hb => Below.heap_alloc _ _ _ hb) ?_ (fun b hb => by cases hb; exact Nat.le_refl _)
  refine ⟨by rw [List.length_take, Array.length_toList, hc]; exact Nat.min_eq_left (Nat.mul_le_mul_right _ hn), .inr ⟨_, c, cells, rfl, h.below.size, heap_alloc_new _ _, hn, hm, hc, rfl⟩⟩

/-- The cells of a slice's literal. -/
def bslv {P : Program} (T : Tab P) (e : TypeId) (len : Nat) (parts : List (Nat × Value)) : Option (List Value) :=
  match T.info e with
  | some ie => match ie.zero with
    | some z => cond (Nat.ble (len * ie.size) (2 ^ 24) && Nat.beq z.cells.toList.length ie.size) (fillL (fun i => some (i * ie.size, ie.size)) ((List.replicate len z.cells.toList).flatten) parts) none
    | none => none
  | none => none

theorem flat_get (z : List Value) : ∀ (n i : Nat), i < n * z.length → ((List.replicate n z).flatten)[i]? = z[i % z.length]?
  | 0, i, h => by simp at h
  | n + 1, i, h => by
    rw [List.replicate_succ, List.flatten_cons, List.getElem?_append]
    have hz : 0 < z.length := by
      rcases Nat.eq_zero_or_pos z.length with h0 | h0
      · rw [h0] at h; simp at h
      · exact h0
    split
    · rename_i hi; rw [Nat.mod_eq_of_lt hi]
    · rename_i hi
      rw [flat_get z n (i - z.length) (by rw [Nat.succ_mul] at h; omega)]
      congr 1
      exact (Nat.mod_eq_sub_mod (by omega)).symm

theorem flat_rep (z : List Value) (n : Nat) : ((Array.range (n * z.length)).map fun i => z.toArray[i % z.toArray.size]!) = ((List.replicate n z).flatten).toArray := by
  apply Array.ext'
  apply List.ext_getElem?
  intro i
  simp only [Array.toList_map, Array.toList_range, List.getElem?_map]
  by_cases hi : i < n * z.length
  · have hz : 0 < z.length := by
      rcases Nat.eq_zero_or_pos z.length with h0 | h0
      · rw [h0] at hi; simp at hi
      · exact h0
    have hm : i % z.length < z.length := Nat.mod_lt _ hz
    rw [List.getElem?_range hi, flat_get z n i hi]
    simp [hm]
  · rw [List.getElem?_eq_none (by simp; omega), List.getElem?_eq_none (by simp [List.length_flatten]; omega)]
    rfl

theorem NV.buildSlice (T : Tab P) {o : Oper} {R : Value → List Chunk → Prop} {t e : TypeId} {len : Nat} {parts : Array (Nat × Operand)} {ie : TypeInfo} {cells : List Value}
    (ho : o.op = .buildSlice t len parts) (hd : T.desc t = some (.slice e)) (hi : T.info e = some ie) (hm : len ≤ maxLen) (hb : bslv T e len (evp fr parts.toList) = some cells)
    (hk : ∀ b, R (.slice (some ⟨b, 0, none⟩) len len) (.row (some ⟨b, 0, none⟩) len len e ie.size cells :: H)) : NV P w0 r fr H o R := by
  refine ⟨fun c hc => (by rw [ho] at hc; cases hc), fun w hw => ?_⟩
  simp only [bslv, hi] at hb
  cases hz : ie.zero with
  | none => simp [hz] at hb
  | some z =>
    simp only [hz] at hb
    cases hc : (Nat.ble (len * ie.size) (2 ^ 24) && Nat.beq z.cells.toList.length ie.size) with
    | false => rw [hc] at hb; cases hb
    | true =>
      rw [hc] at hb
      simp only [cond] at hb
      simp only [Bool.and_eq_true] at hc
      have h1 : len * ie.size ≤ 2 ^ 24 := Nat.le_of_ble_eq_true hc.1
      have h2 : z.cells.toList.length = ie.size := Nat.eq_of_beq_eq_true hc.2
      have hp : (parts.map fun (p : Nat × Operand) => (p.1, ev fr p.2)) = (evp fr parts.toList).toArray := by
        apply Array.ext'; simp [← evp_map]
      have hfl : ((Array.range (len * ie.size)).map fun i => z.cells[i % z.cells.size]!) = ((List.replicate len z.cells.toList).flatten).toArray := by
        have := flat_rep z.cells.toList len
        rw [h2] at this
        simpa using this
      have hlen : ∀ (place : Nat → Option (Nat × Nat)) (parts : List (Nat × Value)) (cs l : List Value), fillL place cs parts = some l → l.length = cs.length := by
        intro place parts
        induction parts with
        | nil => intro cs l h; cases h; rfl
        | cons p rest ih =>
          intro cs l h
          simp only [fillL] at h
          split at h
          · cases h
          · rename_i off size _
            cases hq : (Nat.beq p.2.cells.toList.length size && Nat.ble (off + p.2.cells.toList.length) cs.length) with
            | false => rw [hq] at h; cases h
            | true =>
              rw [hq] at h
              simp only [Bool.and_eq_true] at hq
              have hq2 := Nat.le_of_ble_eq_true hq.2
              rw [ih _ _ h]
              simp only [spliceL, List.length_append, List.length_take, List.length_drop]
              omega
      have hcl : cells.length = len * ie.size := by
        rw [hlen _ _ _ _ hb, List.length_flatten]
        simp [← h2]
      have hf := fill_eq _ (fun i => some (i * ie.size, ie.size)) (fun _ => rfl) _ _ _ hb
      have hrun : (execOp (ev fr) o).run P w = .ok (.value (.slice (some ⟨w.heap.size, 0, none⟩) len len)) (w.alloc (.cells cells.toArray e)) := by
        simp only [execOp, ho, Instr.buildSlice, Sem.run_bind, run_ul T hd, run_size T hi, Result.andThen_ok, hp]
        rw [if_neg (by omega)]
        by_cases h0 : len * ie.size = 0
        · have hnil : ((List.replicate len z.cells.toList).flatten) = [] := by
            apply List.eq_nil_of_length_eq_zero
            rw [List.length_flatten]; simp [h2, h0]
          rw [hnil] at hf
          simp only [h0, if_true, Sem.run_bind, Sem.run_pure, Result.andThen_ok]
          have hr0 : ((Array.range 0).map fun x => (#[] : Array Value)[x % (#[] : Array Value).size]!) = #[] := by simp
          rw [hr0, hf]
          simp [newRow]
        · rw [if_neg h0]
          simp only [Sem.run_bind, run_zero T hi hz, Sem.run_pure, Result.andThen_ok]
          rw [hfl, hf]
          simp [newRow]
      rw [hrun]
      refine ⟨_, ?_, hk _⟩
      have := Sat.newRow hw cells.toArray e ie.size len len (by simpa using hcl) (Nat.le_refl _) hm
      rwa [List.take_of_length_le (by simp; omega)] at this

/-- Zeros. -/
theorem NV.makeSlice (T : Tab P) {o : Oper} {R : Value → List Chunk → Prop} {t e : TypeId} {x y : Operand} {kl kc : IntKind} {n c : Nat} {ie : TypeInfo} {z : Value} {zs : List Value}
    (ho : o.op = .makeSlice t x y) (hd : T.desc t = some (.slice e)) (hi : T.info e = some ie) (hz : ie.zero = some z) (hzs : z.cells.toList = zs) (hsz : zs.length = ie.size)
    (hx : ev fr x = .int kl n) (hy : ev fr y = .int kc c) (hn : n ≤ c) (hc : c ≤ maxLen) (hb : ie.bytes * c ≤ 281474976710656)
    (hk : ∀ b, R (.slice (some ⟨b, 0, none⟩) n c) (.row (some ⟨b, 0, none⟩) n c e ie.size ((List.replicate n zs).flatten) :: H)) : NV P w0 r fr H o R := by
  refine ⟨fun c hc => (by rw [ho] at hc; cases hc), fun w hw => ?_⟩
  have hc' : (c : Int) ≤ 9223372036854775807 := by simp only [maxLen] at hc; omega
  have hwc : IntKind.i64.wrap (c : Int) = c := wrap_in (by simp only [loK]; omega) (by simp only [hiK]; omega)
  have hwn : IntKind.i64.wrap (n : Int) = n := wrap_in (by simp only [loK]; omega) (by simp only [hiK]; omega)
  have hflat : ((Array.range (c * ie.size)).map fun i => z.cells[i % z.cells.size]!) = ((List.replicate c zs).flatten).toArray := by
    have := flat_rep zs c
    rw [hsz] at this
    subst hzs
    simpa using this
  have hrun : (execOp (ev fr) o).run P w = .ok (.value (.slice (some ⟨w.heap.size, 0, none⟩) n c)) (w.alloc (.cells ((List.replicate c zs).flatten).toArray e)) := by
    simp only [execOp, ho, Instr.makeSlice, Sem.run_bind, run_ul T hd, Result.andThen_ok, asInt, hx, hy, asIntOf, Sem.run_pure, run_info T hi, hwc, hwn]
    rw [if_neg (by
      simp only [Bool.or_eq_true, decide_eq_true_eq]
      have : ((ie.bytes * c : Nat) : Int) ≤ ((281474976710656 : Nat) : Int) := Int.ofNat_le.2 hb
      rw [Int.natCast_mul] at this
      omega)]
    simp only [Int.toNat_natCast, run_askRoom, Result.andThen_ok, run_size T hi, Sem.run_pure, Sem.run_bind]
    by_cases h0 : c * ie.size = 0
    · have hnil : ((List.replicate c zs).flatten) = [] := by
        apply List.eq_nil_of_length_eq_zero
        rw [List.length_flatten]; simp [hsz, h0]
      rw [hnil]
      simp only [h0, if_true, Sem.run_bind, Sem.run_pure, Result.andThen_ok]
      have hr0 : ((Array.range 0).map fun x => (#[] : Array Value)[x % (#[] : Array Value).size]!) = #[] := by simp
      rw [hr0]
      simp [newRow]
    · rw [if_neg h0]
      simp only [Sem.run_bind, run_zero T hi hz, Sem.run_pure, Result.andThen_ok]
      rw [hflat]
      simp [newRow]
  rw [hrun]
  refine ⟨_, ?_, hk _⟩
  have := Sat.newRow hw ((List.replicate c zs).flatten).toArray e ie.size n c (by simp [List.length_flatten, hsz]) hn hc
  rw [List.toList_toArray] at this
  have htake : ((List.replicate c zs).flatten).take (n * ie.size) = (List.replicate n zs).flatten := by
    obtain ⟨m, rfl⟩ := Nat.le.dest hn
    rw [← List.replicate_append_replicate, List.flatten_append]
    apply List.take_left'
    simp [List.length_flatten, hsz]
  rwa [htake] at this
end
end Go.Sep
