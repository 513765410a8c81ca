import Derived.Test.YtjemdjjmpgjieaaS36
import Derived.Shelf.SlSortCmp.WholeK
import Derived.Shelf.SlSortCmp.NoneTotal
set_option linter.unusedVariables false
set_option linter.unusedSimpArgs false
/- The library's sort of a row of the call's own, in our words. -/
namespace Go.Sep
open Go Go.RowKit
theorem grown_of {W w' : World} (h : Sat W w' []) : ∃ q os', w' = Go.Sort.grow (W.drewN q) os' := by
  refine ⟨w'.drawn - W.drawn, w'.heap.extract W.heap.size w'.heap.size, ?_⟩
  have hb := h.below
  have hd := h.drawn
  have hheap : w'.heap = W.heap ++ w'.heap.extract W.heap.size w'.heap.size := by
    apply Array.ext_getElem?
    intro k
    rcases Nat.lt_or_ge k W.heap.size with hk | hk
    · rw [Array.getElem?_append_left hk, hb.block k hk]
    · rw [Array.getElem?_append_right hk, Array.getElem?_extract]
      rcases Nat.lt_or_ge k w'.heap.size with h2 | h2
      · rw [if_pos (by have := hb.size; omega)]
        congr 1
        omega
      · rw [if_neg (by omega), Array.getElem?_eq_none h2]
  cases w' with
  | mk heap tape drawn os output =>
    cases W with
    | mk heap2 tape2 drawn2 os2 output2 =>
      have h1 : os = os2 := hb.os
      have h2 : tape = tape2 := hb.tape
      have h3 : output = output2 := hb.output
      subst h1 h2 h3
      show World.mk _ _ _ _ _ = World.mk _ _ _ _ _
      congr 1
      show drawn = drawn2 + (drawn - drawn2)
      have : drawn2 ≤ drawn := hd
      omega
theorem flatK_list {α : Type} [Inhabited α] {enc : α → List Value} {k : Nat} (hE : ∀ r, (enc r).length = k) (hk : 0 < k) (rs : List α) : (Go.Sort.flatK enc k rs.toArray).toList = rs.flatMap enc := by
  have hlen : ∀ l : List α, (l.flatMap enc).length = l.length * k := by
    intro l
    induction l with
    | nil => simp
    | cons a l ih => rw [List.flatMap_cons, List.length_append, hE, ih, List.length_cons, Nat.succ_mul]; omega
  have hsz : (Go.Sort.flatK enc k rs.toArray).size = rs.length * k := by simp
  apply List.ext_getElem?
  intro t
  rcases Nat.lt_or_ge t (rs.length * k) with ht | ht
  · have h1 := Go.Sort.get_flatK enc k rs.toArray t (by simpa using ht)
    have hj : t / k < rs.length := (Nat.div_lt_iff_lt_mul hk).2 ht
    have ho : t % k < k := Nat.mod_lt _ hk
    have h2 : rs[t / k]? = some (rs.toArray[t / k]!) := by
      rw [List.getElem?_eq_getElem hj]
      simp [hj]
    have h3 : (enc rs.toArray[t / k]!)[t % k]? = some ((enc rs.toArray[t / k]!)[t % k]!) := by
      have : t % k < (enc rs.toArray[t / k]!).length := by rw [hE]; exact ho
      rw [List.getElem?_eq_getElem this, List.getElem!_eq_getElem?_getD, List.getElem?_eq_getElem this]; rfl
    have h4 := fl_get hE rs (t / k) (t % k) _ _ h2 h3
    rw [show t / k * k + t % k = t by rw [Nat.mul_comm]; exact Nat.div_add_mod t k] at h4
    rw [h4, Array.getElem?_toList, ← h1]
    have : t < (Go.Sort.flatK enc k rs.toArray).size := by omega
    rw [getElem!_pos _ t this, Array.getElem?_eq_getElem this]
  · rw [List.getElem?_eq_none (by rw [Array.length_toList]; omega), List.getElem?_eq_none (by rw [hlen]; exact ht)]
theorem take_putId (cur : Array Value) (F : Array Value) (h : F.size ≤ cur.size) : (Go.Sort.putCells id 0 F cur).toList.take F.size = F.toList ∧ (Go.Sort.putCells id 0 F cur).size = cur.size := by
  have hs : (Go.Sort.putCells id 0 F cur).size = cur.size := by simp [Go.Sort.putCells]
  refine ⟨?_, hs⟩
  apply List.ext_getElem?
  intro t
  rw [List.getElem?_take]
  split
  · rename_i ht
    rw [Array.getElem?_toList, Array.getElem?_toList]
    unfold Go.Sort.putCells
    rw [Array.getElem?_mapIdx, Array.getElem?_eq_getElem (by omega : t < cur.size), Option.map_some, if_pos (by omega), Nat.sub_zero, Array.getElem?_eq_getElem ht, getElem!_pos F t ht]
    rfl
  · rename_i ht
    rw [List.getElem?_eq_none (by rw [Array.length_toList]; omega)]
section
variable {P : Program} {w0 : World} {H : List Chunk} {α : Type} [Inhabited α] {enc : α → List Value} {sz : Nat}
/-- The row of the call's own behind the library's sort. -/
theorem Sat.sorted {w : World} {g n c e m : Nat} {os : Array Obj} {rs rs' : List α} (hE : ∀ r, (enc r).length = sz) (hsz : 0 < sz) (hl : rs'.length = rs.length) (hn : n = rs.length) (hw : Sat w0 w (.row (some ⟨g, 0, none⟩) n c e sz (rs.flatMap enc) :: H)) :
    Sat w0 (Go.Proofs.sortWorldK enc sz w g 0 m rs'.toArray os) (.row (some ⟨g, 0, none⟩) n c e sz (rs'.flatMap enc) :: H) := by
  have ho := hw.holds _ (List.mem_cons_self ..)
  have hlen : ∀ l : List α, (l.flatMap enc).length = l.length * sz := by
    intro l
    induction l with
    | nil => simp
    | cons a l ih => rw [List.flatMap_cons, List.length_append, hE, ih, List.length_cons, Nat.succ_mul]; omega
  rcases ho.2 with ⟨h1, _⟩ | ⟨g', cap, cur, h1, hB, hg, hnc, hcm, hcs, htake⟩
  · cases h1
  · cases h1
    have hF : (Go.Sort.flatK enc sz rs'.toArray).size = n * sz := by simp [hl, hn]
    have hfit : n * sz ≤ cur.size := by rw [hcs]; exact Nat.mul_le_mul_right _ hnc
    obtain ⟨hp1, hp2⟩ := take_putId cur (Go.Sort.flatK enc sz rs'.toArray) (by omega)
    have hheap : ∀ k, (Go.Proofs.sortWorldK enc sz w g 0 m rs'.toArray os).heap[k]? = if k < w.heap.size then (if k = g then some (.cells (Go.Sort.putCells id 0 (Go.Sort.flatK enc sz rs'.toArray) cur) e (0, 0)) else w.heap[k]?) else (w.heap ++ os)[k]? := by
      intro k
      show ((w.heap.modify g (Go.Sort.onCells (Go.Sort.putCells id 0 (Go.Sort.flatK enc sz rs'.toArray)))) ++ os)[k]? = _
      by_cases hk : k < w.heap.size
      · rw [if_pos hk, Array.getElem?_append_left (by simpa using hk), Array.getElem?_modify]
        by_cases hkg : k = g
        · subst hkg
          rw [if_pos rfl, if_pos rfl, hg]; rfl
        · rw [if_neg (fun e => hkg e.symm), if_neg hkg]
      · rw [if_neg hk, Array.getElem?_append_right (by simpa using hk), Array.getElem?_append_right (by omega)]
        simp
    have hgl : g < w.heap.size := (Array.getElem?_eq_some_iff.1 hg).1
    refine Sat.turn hw (.head _ _) ⟨rfl, rfl, rfl, ?_, fun k hk => ?_⟩ (fun b hb hne => ?_) ⟨by rw [hlen, hl, hn], .inr ⟨g, c, Go.Sort.putCells id 0 (Go.Sort.flatK enc sz rs'.toArray) cur, rfl, hB, ?_, hnc, hcm, ?_, ?_⟩⟩ (fun b hb => .inl hb) (hdr := Nat.le_add_right _ _)
    · show w.heap.size ≤ ((w.heap.modify g _) ++ os).size
      simp
    · have := hw.below.size
      rw [hheap, if_pos (by omega), if_neg (by omega)]
    · rw [hheap, if_pos hb, if_neg (fun e => hne (by rw [e]; rfl))]
    · rw [hheap, if_pos hgl, if_pos rfl]
    · rw [hp2]; exact hcs
    · rw [← hF, hp1]; exact flatK_list hE hsz rs'
end
end Go.Sep
namespace Go.Sep
open Go Go.RowKit
section
variable {P : Program} {w0 : World} {N : Nat} {r : Option Nat} {fr : Fr} {ds : List Deferred} {H : List Chunk} {ops : Array Oper} {l : List Oper} {K : Cont} {KQ : Fr → Prop} {dd : Option Tmp} {α : Type} {enc : α → List Value} {sz : Nat} {o : Oper}
theorem QV.leS (T : Tab P) [E : RowE enc sz] {t : TypeId} {x : Operand} {a : Option Addr} {n c j f : Nat} {d : TypeDesc} {i : TypeInfo} {rs : List α} {q : α} {vs : List Value} (ho : o.op = .load t x) (hx : ev fr x = .pointer (some (((pa a).add (j * sz)).add f))) (hd : T.desc t = some d) (ha : isAggD d = true) (hi : T.info t = some i)
    (hl : i.size = vs.length) (hR : Rd w0 H a n c sz (rs.flatMap enc)) (hq : rs[j]? = some q) (hvs : ((enc q).drop f).take vs.length = vs) : QV P w0 fr H o (.agg vs.toArray) := by
  refine QV.loadN T ho hx hd ha hi hl fun k v hk => ?_
  rw [add_add]
  refine rd_elem hR hq (f + k) v ?_
  have hlt := (List.getElem?_eq_some_iff.1 hk).1
  rw [← hvs, List.getElem?_take, if_pos hlt, List.getElem?_drop] at hk
  exact hk
theorem RL.leS (T : Tab P) [E : RowE enc sz] {t : TypeId} {x : Operand} {a : Option Addr} {n c j f : Nat} {d : TypeDesc} {i : TypeInfo} {rs : List α} {q : α} {vs : List Value} (h : RL P w0 N r ops l (putF fr dd (.agg vs.toArray)) ds H K)
    (ho : o.op = .load t x := by rfl) (hg : Gd ops fr o := by first | exact Gd.none rfl | exact Gd.yes rfl rfl | exact Gd.yes rfl (congrArg Value.bool (by assumption))) (hdd : o.dst = dd := by rfl) (hN : dstOK N dd = true := by rfl)
    (hx : ev fr x = .pointer (some (((pa a).add (j * sz)).add f)) := by rfl) (hd : T.desc t = some d := by rfl) (ha : isAggD d = true := by rfl) (hi : T.info t = some i := by rfl)
    (hR : (∃ w, Sat w0 w H) → Rd w0 H a n c sz (rs.flatMap enc) := by intro hs; repeat first | assumption | exact Rd.rowh hs (by repeat first | exact At.head _ _ | apply At.tail | apply At.app) | apply Rd.cons | apply Rd.app | solve_by_elim)
    (hq : rs[j]? = some q := by first | assumption | exact get_dflt _ (by omega)) (hvs : ((enc q).drop f).take vs.length = vs := by rfl) (hl : i.size = vs.length := by rfl) : RL P w0 N r ops (o :: l) fr ds H K :=
  RL.q (QV.sat fun hs => QV.leS T ho hx hd ha hi hl (hR hs) hq hvs) h (fun c hc => by rw [ho] at hc; cases hc) hg hdd hN
theorem QL.leS (T : Tab P) [E : RowE enc sz] {t : TypeId} {x : Operand} {a : Option Addr} {n c j f : Nat} {d : TypeDesc} {i : TypeInfo} {rs : List α} {q : α} {vs : List Value} (h : QL P w0 r ops H l (putF fr dd (.agg vs.toArray)) KQ)
    (ho : o.op = .load t x := by rfl) (hg : Gd ops fr o := by first | exact Gd.none rfl | exact Gd.yes rfl rfl | exact Gd.yes rfl (congrArg Value.bool (by assumption))) (hdd : o.dst = dd := by rfl)
    (hx : ev fr x = .pointer (some (((pa a).add (j * sz)).add f)) := by rfl) (hd : T.desc t = some d := by rfl) (ha : isAggD d = true := by rfl) (hi : T.info t = some i := by rfl)
    (hR : (∃ w, Sat w0 w H) → Rd w0 H a n c sz (rs.flatMap enc) := by intro hs; repeat first | assumption | exact Rd.rowh hs (by repeat first | exact At.head _ _ | apply At.tail | apply At.app) | apply Rd.cons | apply Rd.app | solve_by_elim)
    (hq : rs[j]? = some q := by first | assumption | exact get_dflt _ (by omega)) (hvs : ((enc q).drop f).take vs.length = vs := by rfl) (hl : i.size = vs.length := by rfl) : QL P w0 r ops H (o :: l) fr KQ :=
  QL.step hg hdd (QV.sat fun hs => QV.leS T ho hx hd ha hi hl (hR hs) hq hvs) h
end
end Go.Sep
