import Derived.Test.YtjemdjjmpgjieaaS15
import Derived.Lib.Builder
import Derived.Lib.UnsafeStr
import Derived.Laws.Externs
set_option linter.unusedVariables false
set_option linter.unusedSimpArgs false
/- What package strings' Builder does: pointers turned to unsafe ones and back, bytes handed on as a string. -/
namespace Go.Sep
open Go Go.RowKit
section
variable {P : Program} {w0 : World} {N : Nat} {r : Option Nat} {fr : Fr} {ds : List Deferred} {H : List Chunk} {ops : Array Oper} {l : List Oper} {o : Oper} {K : Cont} {KQ : Fr → Prop} {dd : Option Tmp}
theorem QV.toUnsafe (T : Tab P) {s d t : TypeId} {x : Operand} {b : Nat} {tb : TypeId} {cells : List Value} {k : Chunk → List Chunk} {j : TypeInfo} (ho : o.op = .convert s d x) (hx : ev fr x = .pointer (some ⟨b, 0, none⟩)) (hs : T.desc s = some (.pointer t)) (hd : T.desc d = some .unsafePointer)
    (ht : T.info t = some j) (hj : Nat.blt 0 j.size = true) (hat : At H (.var b tb cells) k) (hc : Nat.blt 0 cells.length = true) : QV P w0 fr H o (.pointer (some ⟨b, 0, none⟩)) := by
  intro w hw
  obtain ⟨_, hb⟩ := hw.holds _ hat.mem
  have hsh : w.shape? b = some (tb, cells.toArray.size) := by simp [World.shape?, hb]
  have := Lib.run_to_unsafe (P := P) w (src := s) (dst := d) ⟨b, 0, none⟩ (T.hdesc _ _ hs) (T.hdesc _ _ hd) (T.hinfo _ _ ht) (by simp [Nat.blt_eq] at hj; omega) hsh (by simpa [Nat.blt_eq] using hc)
  simp [execOp, ho, hx, this]
theorem QV.fromUnsafe (T : Tab P) {s d u : TypeId} {x : Operand} {b m : Nat} {tb : TypeId} {cells : List Value} {k : Chunk → List Chunk} {j : TypeInfo} (ho : o.op = .convert s d x) (hx : ev fr x = .pointer (some ⟨b, 0, none⟩)) (hs : T.desc s = some .unsafePointer) (hd : T.desc d = some (.pointer u))
    (hu : T.info u = some j) (hat : At H (.var b tb cells) k) (hm : cells.length = m) (hl : liesAt P P.depth tb (m / P.cellsOf tb) 0 u 1 = true) : QV P w0 fr H o (.pointer (some ⟨b, 0, none⟩)) := by
  intro w hw
  subst hm
  obtain ⟨_, hb⟩ := hw.holds _ hat.mem
  have hsh : w.shape? b = some (tb, cells.length) := by simp [World.shape?, hb]
  have := Lib.run_from_unsafe (P := P) w (src := s) (dst := d) ⟨b, 0, none⟩ (T.hdesc _ _ hs) (T.hdesc _ _ hd) (T.hinfo _ _ hu) hsh hl
  simp [execOp, ho, hx, this]
theorem QV.neqPtr (T : Tab P) {t e yt : TypeId} {x y : Operand} {p : Addr} {j : TypeInfo} (ho : o.op = .binOp .neq t x y yt) (hx : ev fr x = .pointer (some p)) (hy : ev fr y = .pointer (some p)) (ht : T.desc t = some (.pointer e)) (he : T.info e = some j) : QV P w0 fr H o (.bool false) := by
  intro w _
  have := Lib.run_neq_ptr_same (P := P) w p (T.hdesc _ _ ht) (T.hinfo _ _ he)
  have hg : (eqGuard .neq t x y (.pointer (some p)) (.pointer (some p))).run P w = .ok () w := by unfold eqGuard; simp
  simp [execOp, ho, hx, hy, this, hg]
/-- A function without a text that hands its argument back. -/
def Ext1 (P : Program) (g : FuncId) : Prop := ∀ x w, (callFunc g #[x]).run P w = .ok (.value x) w
theorem Ext1.mk {g : FuncId} {fn : Func} (h : P.funcs[g]? = some fn) (h1 : (fn.name == "runtime.NumGoroutine") = false) (h2 : fn.body.isNone = true) (h3 : Extern.findNext fn = none) (h4 : Extern.find fn = some Extern.AbiNoEscape.same) : Ext1 P g := by
  intro x w
  rw [run_callFunc_extern h h1 h2 h3 h4, Lib.run_noEscape]
  rfl
theorem NV.ext1 {R : Value → List Chunk → Prop} {cl : Call} {f : Operand} {g : FuncId} {x : Value} (hk : R x H) (hext : Ext1 P g) (ho : o.op = .call cl := by rfl) (hf : cl.callee = .value f := by rfl) (hv : ev fr f = .func (.func g) #[] #[] := by rfl) (ha : evs fr cl.args.toList = [x] := by rfl) : NV P w0 r fr H o R := by
  refine ⟨fun c hc => (by rw [ho] at hc; cases hc), fun w hw => ?_⟩
  have e1 : cl.args.map (ev fr) = #[x] := by
    apply Array.ext'
    rw [Array.toList_map, ev_map, ha]
  simp only [execOp, ho, resolve, hf, hv, Deferred.ofValue, Sem.run_bind, Sem.run_pure, Result.andThen_ok, invoke, e1]
  have := hext x w
  simp only [Array.empty_append, Array.append_empty]
  rw [this]
  exact ⟨H, hw, hk⟩
theorem NV.usd {R : Value → List Chunk → Prop} {cl : Call} {x : Operand} {t : TypeId} {p : Addr} {n c : Nat} (hk : R (.pointer (some p)) H) (ho : o.op = .call cl) (hcl : cl = { callee := .builtin .unsafeSliceData, args := #[x], argTypes := #[t] }) (hx : ev fr x = .slice (some p) n c) (hc : 0 < c) : NV P w0 r fr H o R := by
  subst hcl
  refine ⟨fun c hc => (by rw [ho] at hc; cases hc), fun w hw => ?_⟩
  have := Lib.run_unsafeSliceData_row (P := P) w #[t] o.type p n c (by omega)
  simp only [execOp, ho, resolve, invoke, builtin, Sem.run_bind, Sem.run_pure, Result.andThen_ok, List.map_toArray, List.map_cons, List.map_nil, hx, this]
  exact ⟨H, hw, hk⟩
theorem NV.usd0 {R : Value → List Chunk → Prop} {cl : Call} {x : Operand} {t : TypeId} {n c : Nat} (hk : R (.pointer none) H) (ho : o.op = .call cl) (hcl : cl = { callee := .builtin .unsafeSliceData, args := #[x], argTypes := #[t] }) (hx : ev fr x = .slice none n c) : NV P w0 r fr H o R := by
  subst hcl
  refine ⟨fun c hc => (by rw [ho] at hc; cases hc), fun w hw => ?_⟩
  have := Lib.run_unsafeSliceData_nil (P := P) w #[t] o.type n c
  simp only [execOp, ho, resolve, invoke, builtin, Sem.run_bind, Sem.run_pure, Result.andThen_ok, List.map_toArray, List.map_cons, List.map_nil, hx, this]
  exact ⟨H, hw, hk⟩
theorem NV.us0 {R : Value → List Chunk → Prop} {cl : Call} {x y : Operand} {pt it : TypeId} {q : Option Addr} (hk : R (.string .empty) H) (ho : o.op = .call cl) (hcl : cl = { callee := .builtin .unsafeString, args := #[x, y], argTypes := #[pt, it] }) (hx : ev fr x = .pointer q) (hy : ev fr y = .int .i64 0) : NV P w0 r fr H o R := by
  subst hcl
  refine ⟨fun c hc => (by rw [ho] at hc; cases hc), fun w hw => ?_⟩
  have := Lib.run_unsafeString_none (P := P) w pt it o.type q
  simp only [execOp, ho, resolve, invoke, builtin, Sem.run_bind, Sem.run_pure, Result.andThen_ok, List.map_toArray, List.map_cons, List.map_nil, hx, hy, this]
  exact ⟨H, hw, hk⟩
/-- The bytes of a row of the call's own as a string: the row is frozen, and so goes. -/
theorem NV.us (T : Tab P) {R : Value → List Chunk → Prop} {cl : Call} {x y : Operand} {pt it e : TypeId} {p : Addr} {n c : Nat} {es : List Int} (hk : R (.string (strI es)) H) (ho : o.op = .call cl) (hcl : cl = { callee := .builtin .unsafeString, args := #[x, y], argTypes := #[pt, it] })
    (hx : ev fr x = .pointer (some p)) (hy : ev fr y = .int .i64 n) (hpt : T.desc pt = some (.pointer e)) (he : P.cellsOf e = 1) (hn : 0 < n) (hb : Byte es) : NV P w0 r fr (.row (some p) n c e 1 (es.map (Value.int .u8)) :: H) o R := by
  subst hcl
  refine ⟨fun c hc => (by rw [ho] at hc; cases hc), fun w hw => ?_⟩
  have ho' := hw.holds _ (List.mem_cons_self)
  have hlen : es.length = n := by have := ho'.1; simpa using this
  rcases ho'.2 with ⟨h1, _⟩ | ⟨g, cap, cur, h1, hbg, hg, hnc, hcm, hcs, htake⟩
  · cases h1
  · cases h1
    let bs : List UInt8 := es.map fun n => UInt8.ofNat n.toNat
    have hbl : bs.length = n := by simp [bs, hlen]
    have hsh : w.shape? g = some (e, cur.size) := by simp [World.shape?, hg]
    have hcell : ∀ j x, bs[j]? = some x → w.cell? ((⟨g, 0, none⟩ : Addr).add j) = some (.int .u8 x.toNat) := by
      intro j x hj
      have hje : ∃ z, es[j]? = some z ∧ UInt8.ofNat z.toNat = x := by
        simp only [bs, List.getElem?_map, Option.map_eq_some_iff] at hj
        exact hj
      obtain ⟨z, hz, rfl⟩ := hje
      have hzb := hb z (List.mem_of_getElem? hz)
      have := World.ownsRow.cells (g := g) ho' rfl j (.int .u8 z) (by rw [List.getElem?_map, hz]; rfl)
      rw [this]
      simp only [UInt8.toNat_ofNat']
      congr 2
      omega
    have hUS := Lib.run_unsafeString_row (P := P) w pt it o.type e (T.hdesc _ _ hpt) he g cur.size hsh bs (by intro h; rw [h] at hbl; simp at hbl; omega) (by rw [hcs]; omega) (by unfold maxLen at hcm; omega) hcell
    rw [hbl] at hUS
    simp only [execOp, ho, resolve, invoke, builtin, Sem.run_bind, Sem.run_pure, Result.andThen_ok, List.map_toArray, List.map_cons, List.map_nil, hx, hy, hUS]
    refine ⟨H, ?_, hk⟩
    have hkeep : ∀ b, b ≠ g → (w.freeze ⟨g, 0, none⟩ n).heap[b]? = w.heap[b]? := by
      intro b hne
      unfold World.freeze
      rw [if_neg (by omega)]
      simp only [Array.getElem?_modify]
      rw [if_neg (fun e => hne e.symm)]
    exact (Sat.turn (d := .row none 0 0 0 1 []) (hdr := by unfold World.freeze; split <;> exact Nat.le_refl _) hw (.head _ _) (Lib.below_freeze (Below.refl _ w) hbg n) (fun b _ hne => hkeep b (fun e => hne (by simp [Chunk.block, e]))) (World.ownsRow_nil _ _ 0 1) (fun b hb => by cases hb)).tail
end
end Go.Sep
