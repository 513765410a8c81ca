/- Strings of whole numbers: their bytes as a slice; parts, joins. -/
import Derived.Test.YtokihacnhefbfaaDoorS31
import Derived.Laws.IdiomStrings
set_option linter.unusedVariables false
set_option linter.unusedSimpArgs false
namespace Go.Sep
open Go Go.RowKit
/-- The cells behind '[]byte(s)': the bytes, then noughts; the run-time's mark lies behind the last of them. -/
def frzL (es : List Int) (m : Nat) : List Value := es.map (Value.int .u8) ++ List.replicate m (Value.int .u8 0)
def frzO (e : TypeId) (es : List Int) (m : Nat) : Obj := .cells (frzL es m).toArray e ((frzL es m).length, (frzL es m).length + 1)
theorem strI_size (es : List Int) : (strI es).size = es.length := by simp [strI, ByteArray.size]
theorem bytesRow_strI {es : List Int} (hb : Byte es) (c : Nat) : bytesRow (strI es) c = (frzL es (c - es.length)).toArray := by
  unfold bytesRow frzL
  rw [strI_size]
  apply Array.ext'
  simp only [strI, Array.toList_append, Array.toList_replicate, List.map_toArray, List.map_map]
  congr 1
  apply List.map_congr_left
  intro z hz
  have := hb z hz
  simp only [Function.comp_apply]
  congr 1
  simp only [UInt8.toNat_ofNat']
  omega
section
variable {P : Program} {w0 : World} {N : Nat} {r : Option Nat} {fr : Fr} {ds : List Deferred} {H : List Chunk} {ops : Array Oper} {l : List Oper} {o : Oper} {K : Cont} {KQ : Fr → Prop} {dd : Option Tmp}
theorem NV.bytesOf (T : Tab P) {R : Value → List Chunk → Prop} {s d e : TypeId} {x : Operand} {es : List Int} (ho : o.op = .convert s d x) (hx : ev fr x = .string (strI es)) (hs : T.desc s = some .string) (hd : T.desc d = some (.slice e)) (he : T.desc e = some (.int .u8)) (hb : Byte es)
    (h : ∀ b c m, es.length ≤ c → R (.slice (some ⟨b, 0, none⟩) es.length c) (.obj b (frzO e es m) :: H)) : NV P w0 r fr H o R := by
  refine ⟨fun c hc => (by rw [ho] at hc; cases hc), fun w hw => ?_⟩
  have h1 := run_bytes_of_string (P := P) w s d e (strI es) (T.hdesc _ _ hs) (T.hdesc _ _ hd) (T.hdesc _ _ he)
  rw [strI_size, bytesRow_strI hb] at h1
  simp only [execOp, ho, hx, Sem.run_bind, h1, Result.andThen_ok]
  refine ⟨_, ?_, h w.heap.size _ (grownCap w es.length 0 e - es.length) (grownCap_ge w es.length 0 e)⟩
  have hd2 := hw.drew
  refine Sat.new hd2 (.alloc (.refl _ _) hd2.below.size _) (fun b hb => Below.heap_alloc _ _ _ hb) ⟨hw.below.size, ?_, fun cs t hc => ?_⟩ (fun b hb => by cases hb; exact Nat.le_refl _)
  · have := heap_alloc_new w.drew (frzO e es (grownCap w es.length 0 e - es.length))
    simpa [frzO] using this
  · simp [frzO] at hc
theorem frz_cell {w : World} {b : Nat} {e : TypeId} {es : List Int} {m j : Nat} {k : Chunk → List Chunk} (hw : Sat w0 w H) (hat : At H (.obj b (frzO e es m)) k) : w.cell? ⟨b, j, none⟩ = (frzL es m)[j]? := by
  obtain ⟨_, hb, _⟩ := hw.holds _ hat.mem
  rw [cell_of_row w b j _ _ _ hb]
  simp
theorem Rd.frz {b : Nat} {e : TypeId} {es : List Int} {m n c : Nat} {k : Chunk → List Chunk} (hat : At H (.obj b (frzO e es m)) k) (hn : n = es.length) (hc : n ≤ c) : Rd w0 H (Option.some ⟨b, 0, none⟩) n c 1 (es.map (Value.int .u8)) := by
  refine ⟨by simp [hn], hc, fun _ => rfl, fun p hp j v hj w hw => ?_⟩
  cases hp
  have hlt : j < es.length := by
    have := (List.getElem?_eq_some_iff.1 hj).1
    simpa using this
  rw [Addr.add_lit, Nat.zero_add, frz_cell hw hat, ← hj]
  unfold frzL
  rw [List.getElem?_append_left (by simpa using hlt)]
theorem NV.stFrz (T : Tab P) {R : Value → List Chunk → Prop} {t : TypeId} {x y : Operand} {b j m : Nat} {e : TypeId} {i : TypeInfo} {z : Int} {es : List Int} {k : Chunk → List Chunk}
    (ho : o.op = .store t x y) (hx : ev fr x = .pointer (some ((pa (some ⟨b, 0, none⟩)).add (j * 1)))) (hi : T.info t = some i) (hs : Nat.beq i.size 1 = true) (hv : ev fr y = .int .u8 z)
    (hat : At H (.obj b (frzO e es m)) k) (hl : j < es.length) (hk : R undef (k (.obj b (frzO e (es.set j z) m)))) : NV P w0 r fr H o R := by
  refine ⟨fun c hc => (by rw [ho] at hc; cases hc), fun w hw => ?_⟩
  have hadd : (pa (some ⟨b, 0, none⟩)).add (j * 1) = ⟨b, j, none⟩ := by
    show (⟨b, 0, none⟩ : Addr).add (j * 1) = _
    rw [Addr.add_lit]; simp
  rw [hadd] at hx
  obtain ⟨hB, hb, _⟩ := hw.holds _ hat.mem
  have hlf : j < (frzL es m).length := by simp [frzL]; omega
  have hcell : w.cell? ⟨b, j, none⟩ = some (frzL es m)[j] := by rw [frz_cell hw hat]; simp [hlf]
  have hfro : w.frozen? ⟨b, j, none⟩ = false := by
    simp only [World.frozen?, hb, frzO, Bool.and_eq_false_iff, decide_eq_false_iff_not]
    left; omega
  have hst : (store ⟨b, j, none⟩ (.int .u8 z)).run P w = .ok () (w.setRow b ((frzL es m).toArray.setIfInBounds j (.int .u8 z))) := by
    rw [run_store P w _ _ _ rfl, hcell]
    simp only [hfro]
    rw [setCell_eq_setRow w b j _ _ _ _ hb]
    rfl
  have hsz : i.size = 1 := Nat.eq_of_beq_eq_true hs
  have hrun : (storeVar t ⟨b, j, none⟩ (.int .u8 z)).run P w = .ok () (w.setRow b ((frzL es m).toArray.setIfInBounds j (.int .u8 z))) := by
    have h0 : (⟨b, j, none⟩ : Addr).add 0 = ⟨b, j, none⟩ := rfl
    have hcs : (Value.int IntKind.u8 z).cells = #[.int .u8 z] := rfl
    simp [storeVar, run_size T hi, hsz, hcs, storeCells, h0, hst]
  simp only [execOp, ho, Instr.storeAt, Instr.sureAddr, hx, hv, Sem.run_bind, Sem.run_pure, Result.andThen_ok, hrun]
  refine ⟨_, ?_, hk⟩
  have hset : (frzL es m).toArray.setIfInBounds j (.int .u8 z) = (frzL (es.set j z) m).toArray := by
    apply Array.ext'
    simp [frzL, List.set_append_left, hl]
  have hlen : (frzL (es.set j z) m).length = (frzL es m).length := by simp [frzL]
  refine Sat.turn hw hat (below_setRow w b _ hB) (fun k hk hne => setRow_other w b k _ (fun e => hne (by simp [Chunk.block, e]))) ⟨hB, ?_, fun cs t hc => ?_⟩ (fun b' hb' => .inl hb')
  · rw [hset]
    unfold frzO
    rw [hlen]
    exact setRow_heap w b _ _ e _ hb
  · simp [frzO] at hc
theorem QV.strAt (T : Tab P) {t : TypeId} {x i : Operand} {es : List Int} {k : IntKind} {j : Nat} (ho : o.op = .index t x i) (hx : ev fr x = .string (strI es)) (hi : ev fr i = .int k (j : Int)) (hd : T.desc t = some .string) (hb : Byte es) (hj : j < es.length) : QV P w0 fr H o (.int .u8 (es.getD j 0)) := by
  have hz : (strI es).size = es.length := strI_size es
  have hg : (if (0 : Int) ≤ (j : Int) then (strI es)[(j : Int).toNat]? else none) = some (UInt8.ofNat (es.getD j 0).toNat) := by
    rw [if_pos (by omega), Int.toNat_natCast, getElem?_pos (strI es) j (by omega)]
    congr 1
    show (strI es).data[j]'(by show j < (strI es).size; omega) = _
    simp [strI, List.getD_eq_getElem?_getD, hj]
  have h := QV.idxS (P := P) (w0 := w0) (H := H) (fr := fr) T ho hx hi hd hg
  have hr := hb (es.getD j 0) (by rw [List.getD_eq_getElem?_getD, List.getElem?_eq_getElem hj]; exact List.getElem_mem hj)
  have e : ((UInt8.ofNat (es.getD j 0).toNat).toNat : Int) = es.getD j 0 := by
    rw [UInt8.toNat_ofNat']
    omega
  rw [e] at h
  exact h
end
theorem strI_append (es fs : List Int) : strI es ++ strI fs = strI (es ++ fs) := by
  apply ByteArray.ext
  simp [strI]
/-- Any string is one of whole numbers. -/
def sI (s : ByteArray) : List Int := s.data.toList.map fun b => (b.toNat : Int)
theorem sI_byte (s : ByteArray) : Byte (sI s) := by
  intro z hz
  obtain ⟨b, _, rfl⟩ := List.mem_map.1 hz
  have := b.toNat_lt
  omega
theorem strI_sI (s : ByteArray) : strI (sI s) = s := by
  apply ByteArray.ext
  apply Array.ext'
  simp only [strI, sI, List.map_map]
  conv => rhs; rw [← List.map_id s.data.toList]
  apply List.map_congr_left
  intro b _
  show UInt8.ofNat (b.toNat : Int).toNat = b
  rw [Int.toNat_natCast]; exact UInt8.ofNat_toNat
theorem sI_len (s : ByteArray) : (sI s).length = s.size := by unfold sI; rw [List.length_map, Array.length_toList]; rfl
end Go.Sep
