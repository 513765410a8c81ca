import Derived.Test.YtjemdjjmpgjieaaS17
import Derived.Lib.AppendZerosOnto
set_option linter.unusedVariables false
set_option linter.unusedSimpArgs false
/- Noughts appended: append(s, make([]T, m)...). -/
namespace Go.Sep
open Go Go.RowKit
section
variable {P : Program} {w0 : World} {N : Nat} {r : Option Nat} {fr : Fr} {ds : List Deferred} {H : List Chunk} {ops : Array Oper} {l : List Oper} {o : Oper} {K : Cont} {dd : Option Tmp}
theorem zeroCells_one (z : Value) (n : Nat) : Builtin.zeroCells #[z] n = (List.replicate n z).toArray := by
  apply Array.ext'
  simp [Builtin.zeroCells]
  refine List.eq_replicate_iff.2 ⟨by simp, fun b hb => ?_⟩
  obtain ⟨i, _, rfl⟩ := List.mem_map.1 hb
  simp [Nat.mod_one]
theorem append_stepZ (T : Tab P) (w : World) {B : Nat} {t tn e ty : TypeId} {kn kq : IntKind} {ie : TypeInfo} {z z0 : Value} (hd : T.desc t = some (.slice e)) (hdn : T.desc tn = some (.int kn)) (hi : T.info e = some ie) (hz : ie.zero = some z) (hzs : z.cells = #[z0]) (hsz : ie.size = 1)
    {a : Option Addr} {n c : Nat} {xs : List Value} (hown : w.ownsRow B e 1 (.slice a n c) n xs) (m : Nat) (h1 : z0.oneCell' = true)
    (hm : n + m ≤ maxLen) (hb : (n + m) * ie.bytes ≤ 140737488355328) (hB : B ≤ w.heap.size) :
    ∃ a' c' w', (Builtin.append_ #[t, tn] ty #[.slice a n c, .int kq m]).run P w = .ok (.slice a' (n + m) c') w' ∧ w'.ownsRow B e 1 (.slice a' (n + m) c') (n + m) (xs ++ List.replicate m z0) ∧
      Below B w w' ∧ (∀ b, b < w.heap.size → a.map (·.block) ≠ some b → w'.heap[b]? = w.heap[b]?) ∧ (∀ b, a'.map (·.block) = some b → a.map (·.block) = some b ∨ w.heap.size ≤ b) ∧ w.drawn ≤ w'.drawn := by
  have ht := T.hdesc _ _ hd
  have htn := T.hdesc _ _ hdn
  have hii := T.hinfo _ _ hi
  have hsmall : n + m ≤ 9223372036854775807 := by simp only [maxLen] at hm; omega
  have hmb : m * ie.bytes ≤ 281474976710656 := by
    have := Nat.mul_le_mul_right ie.bytes (Nat.le_add_left m n)
    omega
  have hxl : xs.length = n := by have := hown.1; simpa using this
  have hlen : (xs ++ List.replicate m z0).length = n + m := by rw [List.length_append, hxl, List.length_replicate]
  have hw : IntKind.i64.wrap (m : Int) = m := by rw [IntKind.wrap_i64]; omega
  have hneg : ¬ ((m : Int) < 0) := by omega
  have hw0 : IntKind.i64.wrap 0 = 0 := by rw [IntKind.wrap_i64]; rfl
  have h48i : ¬ (281474976710656 < (m : Int) * (ie.bytes : Int)) := by rw [← Int.natCast_mul]; omega
  have grown : ∀ (old : Nat), (w.drew.alloc (.cells (xs.toArray ++ Builtin.zeroCells z.cells m ++ Builtin.zeroCells z.cells (grownCap w (n + m) old e - (n + m))) e)).ownsRow B e 1
        (.slice (some ⟨w.heap.size, 0, none⟩) (n + m) (grownCap w (n + m) old e)) (n + m) (xs ++ List.replicate m z0) := by
    intro old
    have hge := grownCap_ge w (n + m) old e
    refine ⟨by rw [hlen, Nat.mul_one], .inr ⟨w.heap.size, _, _, rfl, hB, heap_alloc_new w.drew _, hge, grownCap_le_maxLen w (n + m) old e hm, ?_, ?_⟩⟩
    · rw [hzs, zeroCells_one, zeroCells_one]
      simp only [Array.size_append, List.size_toArray, List.length_replicate, hxl]
      omega
    · rw [hzs, zeroCells_one, zeroCells_one]
      simp only [Array.toList_append]
      have e2 : (n + m) * 1 = (xs ++ List.replicate m z0).length := by rw [hlen]; omega
      rw [e2]
      exact List.take_left
  have hbel : ∀ cs : Array Value, Below B w (w.drew.alloc (.cells cs e)) := fun cs => .alloc (Below.drew (.refl _ _)) hB _
  have hkeep : ∀ (cs : Array Value) (b : Nat), b < w.heap.size → (w.drew.alloc (.cells cs e)).heap[b]? = w.heap[b]? := fun cs b hb => Below.heap_alloc w.drew _ b hb
  rcases hown.2 with ⟨h0, rfl⟩ | ⟨g, cap, cur, h0, hbg, hg, hnc, hcm, hcs, htake⟩
  · cases h0
    have hx : xs = [] := List.eq_nil_of_length_eq_zero (by simpa using hown.1)
    subst hx
    by_cases hm0 : m = 0
    · subst hm0
      refine ⟨none, 0, w, ?_, by simpa using World.ownsRow_nil w B e 1, .refl _ _, fun _ _ _ => rfl, fun b hb => (by cases hb), Nat.le_refl _⟩
      simp [Builtin.append_, run_underlying ht, run_underlying htn, sizeOf, typeInfo, hii, asInt, asIntOf, hw0]
    · have hr := Go.Lib.run_append_nil_zeros (P := P) w t tn ty e ie z kq kn ht htn hii hz m (by omega) (by omega) (by omega) hmb
      have hgr := grown 0
      simp only [Nat.zero_add, List.nil_append] at hgr ⊢
      refine ⟨_, _, _, hr, ?_, hbel _, fun b hb _ => hkeep _ b hb, fun b hb => .inr (by cases hb; exact Nat.le_refl _), Nat.le_succ _⟩
      simpa using hgr
  · cases h0
    by_cases hroom : n + m ≤ c
    · have hcs' : cur.size = c := by rw [hcs, Nat.mul_one]
      have hst := run_storeCells_at P g n e (List.replicate m z0) 0 cur w hg (by simp; omega) (fun u hu => by rw [(List.mem_replicate.1 hu).2]; exact h1)
      simp only [Nat.add_zero] at hst
      have hnew : ((if m = 0 then pure #[] else do pure (Builtin.zeroCells (← zeroValue e).cells m) : Sem (Array Value)).run P w) = .ok (List.replicate m z0).toArray w := by
        by_cases hm0 : m = 0
        · subst hm0; simp
        · simp [hm0, zeroValue, typeInfo, hii, hz, hzs, zeroCells_one]
      have hr : (Builtin.append_ #[t, tn] ty #[.slice (some ⟨g, 0, none⟩) n c, .int kq m]).run P w = .ok (.slice (some ⟨g, 0, none⟩) (n + m) c) (w.setRow g (cur.toList.take n ++ List.replicate m z0 ++ cur.toList.drop (n + (List.replicate m z0).length)).toArray) := by
        by_cases hm0 : m = 0
        · subst hm0
          simp only [List.replicate_zero] at hst
          simp [Builtin.append_, run_underlying ht, run_underlying htn, sizeOf, typeInfo, hii, hsz, asInt, asIntOf, hw0, hnc, Addr.add_lit, hst]
        · simp [Builtin.append_, run_underlying ht, run_underlying htn, sizeOf, typeInfo, zeroValue, hii, hz, hzs, hsz, zeroCells_one, asInt, asIntOf, hw, hneg, h48i, hm0, hroom, Addr.add_lit, hst]
      refine ⟨_, _, _, hr, ⟨by rw [hlen, Nat.mul_one], .inr ⟨g, c, _, rfl, hbg, setRow_heap w g cur _ e _ hg, hroom, hcm, ?_, ?_⟩⟩, below_setRow w g _ hbg, fun b _ hne => setRow_other w g b _ (fun e => hne (by simp [e])), fun b hb => .inl hb, Nat.le_refl _⟩
      · simp only [List.size_toArray, List.length_append, List.length_take, List.length_drop, Array.length_toList, List.length_replicate]
        omega
      · have e2 : (n + m) * 1 = (xs ++ List.replicate m z0).length := by rw [hlen]; omega
        have e3 : cur.toList.take n = xs := by simpa using htake
        rw [e3, e2]
        exact List.take_left
    · have holds : ∀ j u, xs[j]? = some u → w.drew.cell? ((⟨g, 0, none⟩ : Addr).add j) = some u := fun j u hj => hown.cells (g := g) rfl j u hj
      have hold := run_firstCells_some (P := P) w.drew 1 n ⟨g, 0, none⟩ n c xs (by rw [hxl, Nat.mul_one]) holds
      have hm0 : 0 < m := by omega
      have hr := Go.Lib.run_append_grow_zeros (P := P) w t tn ty e ie z kq kn ht htn hii hz (some ⟨g, 0, none⟩) n c xs (by rw [hsz]; exact hold) m hm0 (by omega) (by omega) (by omega) hmb (growslice_fits (by omega) hb)
      exact ⟨_, _, _, hr, grown c, hbel _, fun b hb _ => hkeep _ b hb, fun b hb => .inr (by cases hb; exact Nat.le_refl _), Nat.le_succ _⟩
/-- Noughts appended to a slice of the call's own. -/
theorem RL.apZ (T : Tab P) {cl : Call} {t tn e : TypeId} {s x : Operand} {a : Option Addr} {n c : Nat} {j : Int} {m : Nat} {kn kq ki : IntKind} {ie : TypeInfo} {z : Value} {xs : List Int} {k : Chunk → List Chunk}
    (h : ∀ a' c', RL P w0 N r ops l (putF fr dd (.slice a' (n + m) c')) ds (k (.row a' (n + m) c' e 1 ((xs ++ List.replicate m 0).map (Value.int ki)))) K)
    (ho : o.op = .call cl := by rfl) (hg : Gd ops fr o := by first | exact Gd.none rfl | exact Gd.yes rfl rfl | exact Gd.yes rfl (congrArg Value.bool (by assumption))) (hdd : o.dst = dd := by rfl) (hN : dstOK N dd = true := by rfl)
    (hcl : cl = { callee := .builtin .append, args := #[s, x], argTypes := #[t, tn] } := by rfl) (hd : T.desc t = some (.slice e) := by rfl) (hdn : T.desc tn = some (.int kn) := by rfl) (hi : T.info e = some ie := by rfl) (hz : ie.zero = some z := by rfl)
    (hsz : ie.size = 1 := by rfl) (hzs : z.cells = #[.int ki 0] := by rfl) (hs : ev fr s = .slice a n c := by rfl) (hx : ev fr x = .int kq j := by rfl)
    (hat : At H (.row a n c e 1 (xs.map (Value.int ki))) k := by repeat first | exact At.head _ _ | assumption | exact At.put (by assumption) _ | apply At.tail | apply At.app)
    (hj : j = (m : Int) := by omega) (hbb : Nat.ble ie.bytes 64 = true := by rfl) (hnm : n + m ≤ 2199023255552 := by omega) : RL P w0 N r ops (o :: l) fr ds H K := by
  subst hcl hj
  have hb : (n + m) * ie.bytes ≤ 140737488355328 := by have := Nat.mul_le_mul hnm (Nat.le_of_ble_eq_true hbb); omega
  refine RL.step hg hdd hN ⟨fun c hc => (by rw [ho] at hc; cases hc), fun w hw => ?_⟩
  have hown := hw.holds _ hat.mem
  simp only [execOp, ho, resolve, invoke, builtin, Sem.run_bind, Sem.run_pure, Result.andThen_ok, List.map_toArray, List.map_cons, List.map_nil, hs, hx]
  obtain ⟨a', c', w', hrun, hown', hbel, hkeep, hblk, hdr⟩ := append_stepZ T w (ty := o.type) (kq := kq) hd hdn hi hz hzs hsz hown m rfl (by unfold maxLen; omega) hb hw.below.size
  rw [hrun]
  have e1 : xs.map (Value.int ki) ++ List.replicate m (Value.int ki 0) = (xs ++ List.replicate m 0).map (Value.int ki) := by rw [List.map_append, List.map_replicate]
  rw [e1] at hown'
  exact ⟨_, Sat.turn (d := .row a' (n + m) c' e 1 (List.map (Value.int ki) (xs ++ List.replicate m 0))) hw hat hbel hkeep hown' hblk, h a' c'⟩
end
end Go.Sep
