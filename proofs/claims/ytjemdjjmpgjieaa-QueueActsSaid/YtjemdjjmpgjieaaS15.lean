import Derived.Test.YtjemdjjmpgjieaaS14
import Derived.Laws.BytesString
import Derived.Laws.Strings
set_option linter.unusedVariables false
set_option linter.unusedSimpArgs false
/- Bytes as strings. -/
namespace Go.Sep
open Go Go.RowKit
/-- Bytes as a string. -/
def strI (es : List Int) : ByteArray := ⟨(es.map fun n => UInt8.ofNat n.toNat).toArray⟩
theorem strI_toList (es : List Int) : (strI es).toList = es.map fun n => UInt8.ofNat n.toNat := ByteArray.toList_mk _
theorem u8_inj {a b : Int} (ha : 0 ≤ a ∧ a ≤ 255) (hb : 0 ≤ b ∧ b ≤ 255) (h : UInt8.ofNat a.toNat = UInt8.ofNat b.toNat) : a = b := by
  have := congrArg UInt8.toNat h
  simp only [UInt8.toNat_ofNat'] at this
  omega
theorem map_u8_inj : ∀ {es fs : List Int}, Byte es → Byte fs → (es.map fun n => UInt8.ofNat n.toNat) = (fs.map fun n => UInt8.ofNat n.toNat) → es = fs
  | [], [], _, _, _ => rfl
  | [], _ :: _, _, _, h => by simp at h
  | _ :: _, [], _, _, h => by simp at h
  | a :: es, b :: fs, h1, h2, h => by
    simp only [List.map_cons, List.cons.injEq] at h
    rw [u8_inj (h1 a (by simp)) (h2 b (by simp)) h.1, map_u8_inj (fun x hx => h1 x (by simp [hx])) (fun x hx => h2 x (by simp [hx])) h.2]
theorem strI_beq {es fs : List Int} (h1 : Byte es) (h2 : Byte fs) : ((strI es).toList == (strI fs).toList) = decide (es = fs) := by
  rw [strI_toList, strI_toList, Bool.eq_iff_iff]
  simp only [beq_iff_eq, decide_eq_true_eq]
  exact ⟨map_u8_inj h1 h2, fun e => by rw [e]⟩
theorem foldl_push_I : ∀ (ns : List Int) (s : ByteArray), ns.foldl (fun r n => r.push (UInt8.ofNat n.toNat)) s = ⟨s.data ++ (ns.map fun n => UInt8.ofNat n.toNat).toArray⟩
  | [], s => by simp
  | n :: ns, s => by
    rw [List.foldl_cons, foldl_push_I ns]
    simp [ByteArray.push]
section
variable {P : Program} {w0 : World} {N : Nat} {r : Option Nat} {fr : Fr} {ds : List Deferred} {H : List Chunk} {ops : Array Oper} {l : List Oper} {o : Oper} {K : Cont} {KQ : Fr → Prop} {dd : Option Tmp}
theorem QV.toStr (T : Tab P) {s d e : TypeId} {x : Operand} {a : Option Addr} {n c : Nat} {es : List Int} (ho : o.op = .convert s d x) (hx : ev fr x = .slice a n c) (hs : T.desc s = some (.slice e)) (he : T.desc e = some (.int .u8)) (hd : T.desc d = some .string)
    (hR : (∃ w, Sat w0 w H) → Rd w0 H a n c 1 (es.map (Value.int .u8))) : QV P w0 fr H o (.string (strI es)) := by
  intro w hw
  have hr := hR ⟨w, hw⟩
  have hlen : es.length = n := by have := hr.len; simpa using this
  simp only [execOp, ho, hx, Sem.run_bind]
  rw [run_convert_bytes_string w s d e a n c (T.hdesc _ _ hs) (T.hdesc _ _ he) (T.hdesc _ _ hd)]
  cases a with
  | none =>
    have hn : n = 0 := by
      rcases Nat.eq_zero_or_pos n with h | h
      · exact h
      · cases hr.some h
    have : es = [] := List.eq_nil_of_length_eq_zero (by omega)
    subst this
    rfl
  | some p =>
    have hl : (loadCells p n).run P w = .ok (es.map (Value.int .u8)).toArray w := by
      have := run_loadCells_list (P := P) w p (es.map (Value.int .u8)) (fun j v hj => hr.cell p rfl j v hj w hw)
      simpa [hlen] using this
    rw [run_bytesToString w p n c es hl, foldl_push_I]
    simp [strI, ByteArray.empty, ByteArray.emptyWithCapacity]
    rfl
theorem RL.ts (T : Tab P) {s d e : TypeId} {x : Operand} {a : Option Addr} {n c : Nat} {es : List Int} (h : RL P w0 N r ops l (putF fr dd (.string (strI es))) ds H K)
    (ho : o.op = .convert s d x := by rfl) (hg : Gd ops fr o := by first | exact Gd.none rfl | exact Gd.yes rfl rfl | exact Gd.yes rfl (congrArg Value.bool (by assumption))) (hdd : o.dst = dd := by rfl) (hN : dstOK N dd = true := by rfl)
    (hx : ev fr x = .slice a n c := by rfl) (hs : T.desc s = some (.slice e) := by rfl) (he : T.desc e = some (.int .u8) := by rfl) (hd : T.desc d = some .string := by rfl)
    (hR : (∃ w, Sat w0 w H) → Rd w0 H a n c 1 (es.map (Value.int .u8)) := by intro hs; repeat first | assumption | exact Rd.rowh hs (by repeat first | exact At.head _ _ | apply At.tail | apply At.app) | apply Rd.cons | apply Rd.app | solve_by_elim) : RL P w0 N r ops (o :: l) fr ds H K :=
  RL.q (QV.toStr T ho hx hs he hd hR) h (fun c hc => by rw [ho] at hc; cases hc) hg hdd hN
/-- An append to a slice of the call's own, of whole numbers that are read. -/
theorem RL.apI (T : Tab P) {cl : Call} {t e : TypeId} {s x : Operand} {a a2 : Option Addr} {n c m c2 : Nat} {ki : IntKind} {ie : TypeInfo} {z : Value} {xs ys : List Int} {k : Chunk → List Chunk}
    (h : ∀ a' c', RL P w0 N r ops l (putF fr dd (.slice a' (n + m) c')) ds (k (.row a' (n + m) c' e 1 ((xs ++ ys).map (Value.int ki)))) K)
    (ho : o.op = .call cl := by rfl) (hg : Gd ops fr o := by first | exact Gd.none rfl | exact Gd.yes rfl rfl | exact Gd.yes rfl (congrArg Value.bool (by assumption))) (hdd : o.dst = dd := by rfl) (hN : dstOK N dd = true := by rfl)
    (hcl : cl = { callee := .builtin .append, args := #[s, x], argTypes := #[t, t] } := by rfl) (hd : T.desc t = some (.slice e) := by rfl) (hi : T.info e = some ie := by rfl) (hz : ie.zero = some z := by rfl)
    (hsz : ie.size = 1 := by rfl) (hzs : Nat.beq z.cells.size 1 = true := by rfl) (hs : ev fr s = .slice a n c := by rfl) (hx : ev fr x = .slice a2 m c2 := by rfl)
    (hat : At H (.row a n c e 1 (xs.map (Value.int ki))) k := by repeat first | exact At.head _ _ | assumption | exact At.put (by assumption) _ | apply At.tail | apply At.app)
    (hR : (∃ w, Sat w0 w H) → Rd w0 H a2 m c2 1 (ys.map (Value.int ki)) := by intro hs; repeat first | assumption | exact Rd.rowh hs (by repeat first | exact At.head _ _ | apply At.tail | apply At.app) | apply Rd.cons | apply Rd.app | solve_by_elim)
    (hbb : (Nat.ble ie.bytes 1 = true ∧ n + m ≤ 140737488355328) ∨ (Nat.ble ie.bytes 64 = true ∧ n + m ≤ 2199023255552) := by first | exact .inl ⟨rfl, by omega⟩ | exact .inr ⟨rfl, by omega⟩) : RL P w0 N r ops (o :: l) fr ds H K := by
  refine RL.step hg hdd hN (NV.sat (fun hsat => NV.append T ho hcl hd hi hz hsz hzs rfl hs hx hat (hR hsat) (ones_map _ _) (by unfold maxLen; rcases hbb with ⟨_, h⟩ | ⟨_, h⟩ <;> omega) ?_ fun a' c' => ?_) (fun c hc => by rw [ho] at hc; cases hc))
  · rcases hbb with ⟨h1, h2⟩ | ⟨h1, h2⟩ <;> (have := Nat.mul_le_mul h2 (Nat.le_of_ble_eq_true h1); omega)
  · have := h a' c'
    rwa [List.map_append] at this
/-- One whole number appended: the literal's row goes. -/
theorem RL.apI1 (T : Tab P) {cl : Call} {t e : TypeId} {s x : Operand} {a : Option Addr} {b n c m c2 : Nat} {ki : IntKind} {ie : TypeInfo} {z : Value} {xs ys : List Int} {news : List Value} {k : Chunk → List Chunk}
    (h : ∀ a' c', RL P w0 N r ops l (putF fr dd (.slice a' (n + m) c')) ds (k (.row a' (n + m) c' e 1 ((xs ++ ys).map (Value.int ki)))) K)
    (ho : o.op = .call cl := by rfl) (hg : Gd ops fr o := by first | exact Gd.none rfl | exact Gd.yes rfl rfl | exact Gd.yes rfl (congrArg Value.bool (by assumption))) (hdd : o.dst = dd := by rfl) (hN : dstOK N dd = true := by rfl)
    (hcl : cl = { callee := .builtin .append, args := #[s, x], argTypes := #[t, t] } := by rfl) (hd : T.desc t = some (.slice e) := by rfl) (hi : T.info e = some ie := by rfl) (hz : ie.zero = some z := by rfl)
    (hsz : ie.size = 1 := by rfl) (hzs : Nat.beq z.cells.size 1 = true := by rfl) (hs : ev fr s = .slice a n c := by rfl) (hx : ev fr x = .slice (some ⟨b, 0, none⟩) m c2 := by rfl)
    (hat : At H (.row a n c e 1 (xs.map (Value.int ki))) k := by repeat first | exact At.head _ _ | assumption | exact At.put (by assumption) _ | apply At.tail | apply At.app)
    (hnews : news = ys.map (Value.int ki) := by first | exact (rfl : _ = List.map (Value.int _) [_]) | exact (rfl : _ = List.map (Value.int _) [_, _]) | exact (rfl : _ = List.map (Value.int _) [_, _, _, _, _, _, _, _]) | exact (rfl : _ = List.map (Value.int _) [_, _, _]) | exact (rfl : _ = List.map (Value.int _) [_, _, _, _]) | exact (rfl : _ = List.map (Value.int _) [_, _, _, _, _]))
    (hbb : (Nat.ble ie.bytes 1 = true ∧ n + m ≤ 140737488355328) ∨ (Nat.ble ie.bytes 64 = true ∧ n + m ≤ 2199023255552) := by first | exact .inl ⟨rfl, by omega⟩ | exact .inr ⟨rfl, by omega⟩) : RL P w0 N r ops (o :: l) fr ds (.row (some ⟨b, 0, none⟩) m c2 e 1 news :: H) K := by
  subst hnews
  refine RL.step hg hdd hN (NV.append1 T ho hcl hd hi hz hsz hzs rfl hs hx hat (ones_map _ _) (by unfold maxLen; rcases hbb with ⟨_, h⟩ | ⟨_, h⟩ <;> omega) ?_ fun a' c' => ?_)
  · rcases hbb with ⟨h1, h2⟩ | ⟨h1, h2⟩ <;> (have := Nat.mul_le_mul h2 (Nat.le_of_ble_eq_true h1); omega)
  · have := h a' c'
    rwa [List.map_append] at this
def bslc (T : Tab P) (e : TypeId) (len : Nat) (parts : List (Nat × Value)) : Option (List Value) :=
  match T.info e with
  | some ie => match ie.zero with
    | some z => cond (Nat.ble (len * ie.size) (2 ^ 24) && Nat.beq z.cells.toList.length ie.size) (match catL (fun i => some (i * ie.size, ie.size)) 0 parts with
      | some l => cond (Nat.beq l.length (len * ie.size)) (some l) none
      | none => none) none
    | none => none
  | none => none
theorem bslc_bslv {T : Tab P} {e : TypeId} {len : Nat} {parts : List (Nat × Value)} {l : List Value} (h : bslc T e len parts = some l) : bslv T e len parts = some l := by
  unfold bslc at h
  unfold bslv
  cases hi : T.info e with
  | none => simp [hi] at h
  | some ie =>
    cases hz : ie.zero with
    | none => simp [hi, hz] at h
    | some z =>
      simp only [hi, hz] at h ⊢
      cases hc : (Nat.ble (len * ie.size) (2 ^ 24) && Nat.beq z.cells.toList.length ie.size) with
      | false => rw [hc] at h; cases h
      | true =>
        rw [hc] at h
        simp only [cond] at h ⊢
        cases hl : catL (fun i => some (i * ie.size, ie.size)) 0 parts with
        | none => rw [hl] at h; cases h
        | some l' =>
          rw [hl] at h
          simp only at h
          cases hb : Nat.beq l'.length (len * ie.size) with
          | false => rw [hb] at h; cases h
          | true =>
            rw [hb] at h
            cases h
            have h1 := Nat.eq_of_beq_eq_true hb
            simp only [Bool.and_eq_true] at hc
            have h2 := Nat.eq_of_beq_eq_true hc.2
            have hfl : ((List.replicate len z.cells.toList).flatten).length = len * ie.size := by rw [List.length_flatten]; simp [← h2]
            rw [catL_fill _ parts 0 l _ hl (by omega), Nat.zero_add, List.take_zero, List.nil_append, List.drop_of_length_le (by omega), List.append_nil]
/-- An element of an array of whole numbers. -/
theorem QV.idxI (T : Tab P) {t e len : Nat} {x i : Operand} {cs : Array Value} {k ki : IntKind} {j : Int} {vs : List Int} {ie : TypeInfo} {de : TypeDesc} (ho : o.op = .index t x i) (hx : ev fr x = .agg cs) (hcs : cs.toList = vs.map (Value.int k)) (hi : ev fr i = .int ki j)
    (hd : T.desc t = some (.array len e)) (he : T.info e = some ie) (hs : ie.size = 1) (hde : T.desc e = some de) (ha : isAggD de = false) (hl : vs.length = len) (h0 : 0 ≤ j) (h1 : j < len) : QV P w0 fr H o (.int k (vs.getD j.toNat 0)) := by
  intro w _
  have hp : partv T e cs.toList (j.toNat * ie.size) = some (.int k (vs.getD j.toNat 0)) := by
    unfold partv
    rw [hde]
    simp only [ha]
    rw [hcs, hs, Nat.mul_one]
    exact map_get _ _ (by omega)
  simp [execOp, ho, Instr.index, asIntOf, hi, run_ul T hd, hx, h0, h1, run_size T he, run_part T hp]
/-- A slice's literal, cells told. -/
theorem RL.bs (T : Tab P) {t e : TypeId} {len : Nat} {parts : Array (Nat × Operand)} {ie : TypeInfo} {cells : List Value} {sz : Nat} (ho : o.op = .buildSlice t len parts) (hd : T.desc t = some (.slice e)) (hi : T.info e = some ie) (hb : bslc T e len (evp fr parts.toList) = some cells)
    (h : ∀ b, RL P w0 N r ops l (putF fr dd (.slice (some ⟨b, 0, none⟩) len len)) ds (.row (some ⟨b, 0, none⟩) len len e sz cells :: H) K)
    (hg : Gd ops fr o := by first | exact Gd.none rfl | exact Gd.yes rfl rfl | exact Gd.yes rfl (congrArg Value.bool (by assumption))) (hdd : o.dst = dd := by rfl) (hN : dstOK N dd = true := by rfl)
    (hsz : ie.size = sz := by rfl) (hm : len ≤ maxLen := by exact Nat.le_of_ble_eq_true rfl) : RL P w0 N r ops (o :: l) fr ds H K := by
  subst hsz
  exact RL.step hg hdd hN (NV.buildSlice T ho hd hi hm (bslc_bslv hb) h)
end
end Go.Sep
