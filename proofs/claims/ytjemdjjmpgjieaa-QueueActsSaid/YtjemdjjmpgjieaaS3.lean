import Derived.Test.YtjemdjjmpgjieaaS2
set_option linter.unusedVariables false
set_option linter.unusedSimpArgs false
/- Stores, appends, parts of slices, calls, a function's beginning and end. -/
namespace Go.Sep
open Go Go.RowKit

section
variable {P : Program} {w0 : World} {N : Nat} {r : Option Nat} {fr : Fr} {ds : List Deferred} {H : List Chunk}

theorem below_setRow {B : Nat} (w : World) (g : Nat) (cs : Array Value) (h : B ≤ g) : Below B w (w.setRow g cs) :=
  ⟨rfl, rfl, rfl, by simp, fun k hk => setRow_other w g k cs (by omega)⟩

theorem run_storeVar_at (T : Tab P) {t : TypeId} {i : TypeInfo} (hi : T.info t = some i) (w : World) (g o : Nat) (tb : TypeId) (cur : Array Value) (v : Value) (hg : w.heap[g]? = some (.cells cur tb (0, 0)))
    (hs : i.size = v.cells.toList.length) (hl : o + v.cells.toList.length ≤ cur.size) (h1 : v.cells.toList.all Value.oneCell' = true) :
    (storeVar t ⟨g, o, none⟩ v).run P w = .ok () (w.setRow g (spliceL cur.toList o v.cells.toList).toArray) := by
  have := run_storeCells_at P g o tb v.cells.toList 0 cur w hg (by simpa using hl) (fun u hu => List.all_eq_true.1 h1 u hu)
  have hs' : v.cells.size = i.size := by rw [hs]; simp
  simp only [Nat.add_zero] at this
  simp [storeVar, run_size T hi, hs', this, spliceL]

theorem NV.store_var (T : Tab P) {o : Oper} {R : Value → List Chunk → Prop} {t tb : TypeId} {x y : Operand} {b j : Nat} {i : TypeInfo} {vs cells cells' : List Value} {k : Chunk → List Chunk}
    (ho : o.op = .store t x y) (hx : ev fr x = .pointer (some ⟨b, j, none⟩)) (hi : T.info t = some i) (hv : (ev fr y).cells.toList = vs) (hs : i.size = vs.length)
    (h1 : vs.all Value.oneCell' = true) (hat : At H (.var b tb cells) k) (hl : j + vs.length ≤ cells.length) (hc : spliceL cells j vs = cells')
    (hk : R undef (k (.var b tb cells'))) : NV P w0 r fr H o R := by
  subst hv hc
  refine ⟨fun c hc => (by rw [ho] at hc; cases hc), fun w hw => ?_⟩
  obtain ⟨hB, hb⟩ := hw.holds _ hat.mem
  have := run_storeVar_at T hi w b j tb cells.toArray (ev fr y) hb hs (by simpa using hl) h1
  simp only [execOp, ho, Instr.storeAt, Instr.sureAddr, hx, Sem.run_bind, Sem.run_pure, Result.andThen_ok, this]
  refine ⟨_, ?_, hk⟩
  refine Sat.turn hw hat (below_setRow w b _ hB) (fun k hk hne => setRow_other w b k _ (fun e => hne (by simp [Chunk.block, e]))) ⟨hB, ?_⟩ (fun b' hb' => .inl hb')
  simpa using setRow_heap w b _ _ tb (0, 0) hb

theorem splice_one (cells : List Value) (j : Nat) (v : Value) (h : j < cells.length) : spliceL cells j [v] = cells.set j v := by
  simp only [spliceL, List.length_singleton]
  rw [List.set_eq_take_append_cons_drop, if_pos h]
  simp

theorem NV.store_var1 (T : Tab P) {o : Oper} {R : Value → List Chunk → Prop} {t tb : TypeId} {x y : Operand} {b j : Nat} {i : TypeInfo} {v : Value} {cells cells' : List Value} {k : Chunk → List Chunk}
    (ho : o.op = .store t x y) (hx : ev fr x = .pointer (some ⟨b, j, none⟩)) (hi : T.info t = some i) (hs : Nat.beq i.size 1 = true) (hv : ev fr y = v)
    (h1 : v.oneCell' = true) (hat : At H (.var b tb cells) k) (hl : Nat.blt j cells.length = true) (hc' : cells.set j v = cells')
    (hk : R undef (k (.var b tb cells'))) : NV P w0 r fr H o R := by
  have hl' : j < cells.length := by simpa [Nat.blt_eq] using hl
  have hc : v.cells.toList = [v] := by cases v <;> first | rfl | cases h1
  refine NV.store_var T ho hx hi (vs := [v]) (by rw [hv, hc]) (by simpa using Nat.eq_of_beq_eq_true hs) (by simpa using h1) hat (by simp; omega) (by rw [splice_one cells j v hl']; exact hc') hk

theorem Sat.row_store {w : World} {a : Option Addr} {n c e sz : Nat} {xs : List Value} {k : Chunk → List Chunk} (hw : Sat w0 w H) (hat : At H (.row a n c e sz xs) k) (m : Nat) (vs : List Value) (hl : m + vs.length ≤ xs.length) (hne : vs ≠ []) :
    ∃ g cur, pa a = ⟨g, 0, none⟩ ∧ w.heap[g]? = some (.cells cur e (0, 0)) ∧ m + vs.length ≤ cur.size ∧ Sat w0 (w.setRow g (spliceL cur.toList m vs).toArray) (k (.row a n c e sz (spliceL xs m vs))) := by
  have ho := hw.holds _ hat.mem
  have hpos : 0 < vs.length := List.length_pos_iff.2 hne
  rcases ho.2 with ⟨h1, h2⟩ | ⟨g, cap, cur, h1, hB, hg, hn, hm, hcs, htake⟩
  · have := ho.1; rw [h2, Nat.zero_mul] at this; omega
  · cases h1
    have hxl : xs.length ≤ cur.size := by rw [← htake]; simp; omega
    refine ⟨g, cur, rfl, hg, by omega, ?_⟩
    refine Sat.turn hw hat (below_setRow w g _ hB) (fun k hk hne => setRow_other w g k _ (fun e => hne (by simp [Chunk.block, e]))) ?_ (fun b' hb' => .inl hb')
    have hlen : (spliceL xs m vs).length = xs.length := by simp only [spliceL, List.length_append, List.length_take, List.length_drop]; omega
    refine ⟨by rw [hlen]; exact ho.1, .inr ⟨g, c, (spliceL cur.toList m vs).toArray, rfl, hB, setRow_heap w g _ _ e (0, 0) hg, hn, hm, ?_, ?_⟩⟩
    · simp only [spliceL, List.size_toArray, List.length_append, List.length_take, List.length_drop, Array.length_toList]; omega
    · have hxs : n * sz = xs.length := ho.1.symm
      rw [hxs] at htake ⊢
      rw [List.toList_toArray]
      have : cur.toList = xs ++ cur.toList.drop xs.length := by
        have h := (List.take_append_drop xs.length cur.toList).symm
        rw [htake] at h
        exact h
      rw [this]
      apply List.ext_getElem?
      intro q
      simp only [spliceL, List.getElem?_take, List.getElem?_append, List.getElem?_drop, List.length_append, List.length_take, List.length_drop]
      grind

theorem NV.store_row (T : Tab P) {o : Oper} {R : Value → List Chunk → Prop} {t : TypeId} {x y : Operand} {a : Option Addr} {n c e sz m : Nat} {i : TypeInfo} {vs xs : List Value} {k : Chunk → List Chunk}
    (ho : o.op = .store t x y) (hx : ev fr x = .pointer (some ((pa a).add m))) (hi : T.info t = some i) (hv : (ev fr y).cells.toList = vs) (hs : i.size = vs.length) (hne : vs ≠ [])
    (h1 : vs.all Value.oneCell' = true) (hat : At H (.row a n c e sz xs) k) (hl : m + vs.length ≤ xs.length)
    (hk : R undef (k (.row a n c e sz (spliceL xs m vs)))) : NV P w0 r fr H o R := by
  subst hv
  refine ⟨fun c hc => (by rw [ho] at hc; cases hc), fun w hw => ?_⟩
  obtain ⟨g, cur, hp, hb, hlc, hsat⟩ := Sat.row_store hw hat m _ hl hne
  have := run_storeVar_at T hi w g m e cur (ev fr y) hb hs hlc h1
  have hadd : (pa a).add m = ⟨g, m, none⟩ := by rw [hp, Addr.add_lit]; simp
  rw [hadd] at hx
  simp only [execOp, ho, Instr.storeAt, Instr.sureAddr, hx, Sem.run_bind, Sem.run_pure, Result.andThen_ok, this]
  exact ⟨_, hsat, hk⟩

/-- An element of a slice of one-cell elements is written. -/
theorem NV.store_elem (T : Tab P) {o : Oper} {R : Value → List Chunk → Prop} {t : TypeId} {x y : Operand} {a : Option Addr} {n c e sz j : Nat} {i : TypeInfo} {v : Value} {xs : List Value} {k : Chunk → List Chunk}
    (ho : o.op = .store t x y) (hx : ev fr x = .pointer (some ((pa a).add (j * 1)))) (hi : T.info t = some i) (hs : Nat.beq i.size 1 = true) (hv : ev fr y = v)
    (h1 : v.oneCell' = true) (hat : At H (.row a n c e sz xs) k) (hl : j < xs.length)
    (hk : R undef (k (.row a n c e sz (xs.set j v)))) : NV P w0 r fr H o R := by
  have hc : v.cells.toList = [v] := by cases v <;> first | rfl | cases h1
  refine NV.store_row T ho hx hi (vs := [v]) (by rw [hv, hc]) (by simpa using Nat.eq_of_beq_eq_true hs) (by simp) (by simpa using h1) hat (by simp; omega) ?_
  rw [Nat.mul_one, splice_one xs j v hl]
  exact hk

/-! ### append -/
theorem Sat.nilrow {w : World} (h : Sat w0 w H) (e : TypeId) (sz : Nat) : Sat w0 w (.row none 0 0 e sz [] :: H) :=
  Sat.new h (.refl _ _) (fun _ _ => rfl) (World.ownsRow_nil w _ e sz) (fun b hb => by cases hb)
theorem SW.nilrow {c : Code} {Q : Post} (e : TypeId) (sz : Nat) (h : SW P w0 N r c fr ds (.row none 0 0 e sz [] :: H) Q) : SW P w0 N r c fr ds H Q := fun tmps w hr hs => h tmps w hr (hs.nilrow e sz)
theorem RL.nilrow {ops : Array Oper} {l : List Oper} {K : Cont} (e : TypeId) (sz : Nat) (h : RL P w0 N r ops l fr ds (.row none 0 0 e sz [] :: H) K) : RL P w0 N r ops l fr ds H K := fun tmps w idx hi hr hs => h tmps w idx hi hr (hs.nilrow e sz)
theorem SC.nilrow {f : FuncId} {args : Array Value} {R : Value → List Chunk → Prop} (e : TypeId) (sz : Nat) (h : SC P w0 f args (.row none 0 0 e sz [] :: H) R) : SC P w0 f args H R := fun w hs => h w (hs.nilrow e sz)

theorem ownsRow_slice {w : World} {B e sz n : Nat} {v : Value} {xs : List Value} (h : w.ownsRow B e sz v n xs) : ∃ a c, v = .slice a n c := by
  rcases h.2 with ⟨rfl, rfl⟩ | ⟨g, cap, cur, rfl, _⟩
  · exact ⟨none, 0, rfl⟩
  · exact ⟨_, cap, rfl⟩

/-- What 'append' does to a slice of the call's own. -/
theorem append_step (T : Tab P) (w : World) {B : Nat} {t e ty : TypeId} {ie : TypeInfo} {z : Value} (hd : T.desc t = some (.slice e)) (hi : T.info e = some ie) (hz : ie.zero = some z) (hzs : z.cells.size = ie.size)
    {a : Option Addr} {n c : Nat} {xs : List Value} (hown : w.ownsRow B e ie.size (.slice a n c) n xs) (p : Addr) (m c2 : Nat) {news : List Value} (hl : news.length = m * ie.size) (hnews : ∀ j u, news[j]? = some u → w.cell? (p.add j) = some u) (h1 : ∀ u ∈ news, u.oneCell' = true)
    (hm : n + m ≤ maxLen) (hb : (n + m) * ie.bytes ≤ 140737488355328) (hB : B ≤ w.heap.size) :
    ∃ a' c' w', (Builtin.append_ #[t, t] ty #[.slice a n c, .slice (some p) m c2]).run P w = .ok (.slice a' (n + m) c') w' ∧ w'.ownsRow B e ie.size (.slice a' (n + m) c') (n + m) (xs ++ news) ∧
      Below B w w' ∧ (∀ b, b < w.heap.size → a.map (·.block) ≠ some b → w'.heap[b]? = w.heap[b]?) ∧ (∀ b, a'.map (·.block) = some b → a.map (·.block) = some b ∨ w.heap.size ≤ b) ∧ w.drawn ≤ w'.drawn := by
  have ht := T.hdesc _ _ hd
  have hii := T.hinfo _ _ hi
  have hsmall : n + m ≤ 9223372036854775807 := by simp only [maxLen] at hm; omega
  have hlen : (xs ++ news).length = (n + m) * ie.size := by rw [List.length_append, hown.1, hl, Nat.add_mul]
  have grown : ∀ (old : Nat), (w.drew.alloc (.cells (xs.toArray ++ news.toArray ++ Builtin.zeroCells z.cells (grownCap w (n + m) old e - (n + m))) e)).ownsRow B e ie.size
        (.slice (some ⟨w.heap.size, 0, none⟩) (n + m) (grownCap w (n + m) old e)) (n + m) (xs ++ news) := by
    intro old
    have hge := grownCap_ge w (n + m) old e
    refine ⟨hlen, .inr ⟨w.heap.size, _, _, rfl, hB, heap_alloc_new w.drew _, hge, grownCap_le_maxLen w (n + m) old e hm, ?_, ?_⟩⟩
    · simp only [Array.size_append, List.size_toArray, size_zeroCells, hzs, hown.1, hl, ← Nat.add_mul]
      congr 1
      omega
    · simp only [Array.toList_append, List.append_assoc]
      rw [← List.append_assoc, ← hlen]
      exact List.take_left
  have hbel : ∀ cs : Array Value, Below B w (w.drew.alloc (.cells cs e)) := fun cs => .alloc (Below.drew (.refl _ _)) hB _
  have hkeep : ∀ (cs : Array Value) (b : Nat), b < w.heap.size → (w.drew.alloc (.cells cs e)).heap[b]? = w.heap[b]? := fun cs b hb => Below.heap_alloc w.drew _ b hb
  rcases hown.2 with ⟨h0, rfl⟩ | ⟨g, cap, cur, h0, hbg, hg, hnc, hcm, hcs, htake⟩
  · cases h0
    have hx : xs = [] := List.eq_nil_of_length_eq_zero (by simpa using hown.1)
    subst hx
    by_cases hm0 : m = 0
    · subst hm0
      have hn : news = [] := List.eq_nil_of_length_eq_zero (by simpa using hl)
      subst hn
      refine ⟨none, 0, w, ?_, by simpa using World.ownsRow_nil w B e ie.size, .refl _ _, fun _ _ _ => rfl, fun b hb => (by cases hb), Nat.le_refl _⟩
      simp [Builtin.append_, run_underlying ht, sizeOf, typeInfo, hii, Builtin.lenOf, Builtin.firstCells, loadCells, loadCellsFrom]
    · have hr := run_append_nil (P := P) w t ty e ie z ht hii hz p m c2 news hl hnews (by omega) (by omega) (by have hb := hb; simp only [Nat.zero_add] at hb; omega)
      have hgr := grown 0
      simp only [Nat.zero_add, List.nil_append, Array.empty_append] at hgr ⊢
      exact ⟨_, _, _, hr, hgr, hbel _, fun b hb _ => hkeep _ b hb, fun b hb => .inr (by cases hb; exact Nat.le_refl _), Nat.le_succ _⟩
  · cases h0
    by_cases hroom : n + m ≤ c
    · have hfit : n * ie.size + news.length ≤ cur.size := by rw [hl, hcs, ← Nat.add_mul]; exact Nat.mul_le_mul_right _ hroom
      have hr := run_append_room (P := P) w t ty e ie ht hii g n c cur hg p m c2 news hl hnews h1 hroom hfit
      refine ⟨_, _, _, hr, ⟨hlen, .inr ⟨g, c, _, rfl, hbg, setRow_heap w g cur _ e _ hg, hroom, hcm, ?_, ?_⟩⟩, below_setRow w g _ hbg, fun b _ hne => setRow_other w g b _ (fun e => hne (by simp [e])), fun b hb => .inl hb, Nat.le_refl _⟩
      · simp only [List.size_toArray, List.length_append, List.length_take, List.length_drop, Array.length_toList]
        omega
      · rw [htake, ← hlen]
        exact List.take_left
    · have holds : ∀ j u, xs[j]? = some u → w.cell? ((⟨g, 0, none⟩ : Addr).add j) = some u := hown.cells (g := g) rfl
      have hr := run_append_grow (P := P) w t ty e ie z ht hii hz ⟨g, 0, none⟩ n c xs hown.1 holds p m c2 news hl hnews (by omega) (by omega) (growslice_fits (by omega) hb)
      exact ⟨_, _, _, hr, grown c, hbel _, fun b hb _ => hkeep _ b hb, fun b hb => .inr (by cases hb; exact Nat.le_refl _), Nat.le_succ _⟩

theorem NV.append (T : Tab P) {o : Oper} {R : Value → List Chunk → Prop} {cl : Call} {t e : TypeId} {s x : Operand} {a a2 : Option Addr} {n c m c2 sz : Nat} {ie : TypeInfo} {z : Value} {xs news : List Value} {k : Chunk → List Chunk}
    (ho : o.op = .call cl) (hcl : cl = { callee := .builtin .append, args := #[s, x], argTypes := #[t, t] }) (hd : T.desc t = some (.slice e)) (hi : T.info e = some ie) (hz : ie.zero = some z)
    (hsz : ie.size = sz) (hzs : Nat.beq z.cells.size sz = true) (hpos : Nat.blt 0 sz = true) (hs : ev fr s = .slice a n c) (hx : ev fr x = .slice a2 m c2) (hat : At H (.row a n c e sz xs) k) (hR : Rd w0 H a2 m c2 sz news) (h1 : ∀ u ∈ news, u.oneCell' = true)
    (hm : n + m ≤ maxLen) (hb : (n + m) * ie.bytes ≤ 140737488355328)
    (hk : ∀ a' c', R (.slice a' (n + m) c') (k (.row a' (n + m) c' e sz (xs ++ news)))) : NV P w0 r fr H o R := by
  subst hcl hsz
  refine ⟨fun c hc => (by rw [ho] at hc; cases hc), fun w hw => ?_⟩
  have hown := hw.holds _ hat.mem
  have hzs' : z.cells.size = ie.size := Nat.eq_of_beq_eq_true hzs
  have hpos' : 0 < ie.size := by simpa [Nat.blt_eq] using hpos
  simp only [execOp, ho, resolve, invoke, builtin, Sem.run_bind, Sem.run_pure, Result.andThen_ok, List.map_toArray, List.map_cons, List.map_nil, hs, hx]
  cases a2 with
  | none =>
    have hm0 : m = 0 := by
      rcases Nat.eq_zero_or_pos m with h | h
      · exact h
      · have := hR.some h; cases this
    subst hm0
    have hnews : news = [] := List.eq_nil_of_length_eq_zero (by simpa using hR.len)
    subst hnews
    have hrun : (Builtin.append_ #[t, t] o.type #[.slice a n c, .slice none 0 c2]).run P w = .ok (.slice a n c) w := by
      rcases hown.2 with ⟨h1, rfl⟩ | ⟨g, cap, cur, h1, _, _, hnc, _⟩ <;> cases h1
      · simp [Builtin.append_, run_underlying (T.hdesc _ _ hd), sizeOf, typeInfo, T.hinfo _ _ hi, Builtin.lenOf, Builtin.firstCells]
      · simp [Builtin.append_, run_underlying (T.hdesc _ _ hd), sizeOf, typeInfo, T.hinfo _ _ hi, Builtin.lenOf, Builtin.firstCells, hnc, storeCells]
    rw [hrun]
    have := hk a c
    simp only [Nat.add_zero, List.append_nil] at this
    refine ⟨_, ?_, this⟩
    refine Sat.turn hw hat (.refl _ _) (fun _ _ _ => rfl) hown (fun b hb => .inl hb)
  | some p =>
    obtain ⟨a', c', w', hrun, hown', hbel, hkeep, hblk, hdr⟩ := append_step T w (ty := o.type) hd hi hz hzs' hown p m c2 hR.len (fun j u hj => hR.cell p rfl j u hj w hw) h1 hm hb hw.below.size
    rw [hrun]
    exact ⟨_, Sat.turn (d := .row a' (n + m) c' e ie.size (xs ++ news)) hw hat hbel hkeep hown' hblk, hk a' c'⟩

/-- One element appended: the literal's row goes. -/
theorem NV.append1 (T : Tab P) {o : Oper} {R : Value → List Chunk → Prop} {cl : Call} {t e : TypeId} {s x : Operand} {a : Option Addr} {b n c m c2 sz : Nat} {ie : TypeInfo} {z : Value} {xs news : List Value} {k : Chunk → List Chunk}
    (ho : o.op = .call cl) (hcl : cl = { callee := .builtin .append, args := #[s, x], argTypes := #[t, t] }) (hd : T.desc t = some (.slice e)) (hi : T.info e = some ie) (hz : ie.zero = some z)
    (hsz : ie.size = sz) (hzs : Nat.beq z.cells.size sz = true) (hpos : Nat.blt 0 sz = true) (hs : ev fr s = .slice a n c) (hx : ev fr x = .slice (some ⟨b, 0, none⟩) m c2) (hat : At H (.row a n c e sz xs) k) (h1 : ∀ u ∈ news, u.oneCell' = true)
    (hm : n + m ≤ maxLen) (hb : (n + m) * ie.bytes ≤ 140737488355328)
    (hk : ∀ a' c', R (.slice a' (n + m) c') (k (.row a' (n + m) c' e sz (xs ++ news)))) : NV P w0 r fr (.row (some ⟨b, 0, none⟩) m c2 e sz news :: H) o R :=
  NV.conv (NV.sat (fun hsat => NV.append (R := fun v H' => ∃ H'', H' = .row (some ⟨b, 0, none⟩) m c2 e sz news :: H'' ∧ R v H'') T ho hcl hd hi hz hsz hzs hpos hs hx hat.tail (Rd.row (.head _ _) hsat) h1 hm hb fun a' c' => ⟨_, rfl, hk a' c'⟩) (fun c hc => by rw [ho] at hc; cases hc))
    fun v H' ⟨H'', e, h⟩ => ⟨H'', fun w hw => by subst e; exact hw.tail, h⟩

/-! ### parts of slices -/
def subA (a : Option Addr) (l c sz : Nat) : Option Addr := if c = l then a else a.map fun p => p.add (l * sz)

theorem subA_zero (a : Option Addr) (c sz : Nat) : subA a 0 c sz = a := by
  unfold subA
  split
  · rfl
  · cases a <;> simp [Addr.add]

theorem Rd.sub {a : Option Addr} {n c sz l h : Nat} {xs : List Value} (hR : Rd w0 H a n c sz xs) (h1 : l ≤ h) (h2 : h ≤ n) : Rd w0 H (subA a l c sz) (h - l) (c - l) sz ((xs.drop (l * sz)).take ((h - l) * sz)) := by
  have hc := hR.cap
  refine ⟨?_, by omega, fun hp => ?_, fun p hp j v hj => ?_⟩
  · rw [List.length_take, List.length_drop, hR.len]
    apply Nat.min_eq_left
    rw [← Nat.sub_mul]
    exact Nat.mul_le_mul_right _ (by omega)
  · unfold subA
    rw [if_neg (by omega)]
    cases a with
    | none => cases hR.some (by omega)
    | some a => rfl
  · unfold subA at hp
    rw [List.getElem?_take] at hj
    split at hj
    · rename_i hlt
      have hlt' : 0 < h - l := by
        rcases Nat.eq_zero_or_pos (h - l) with h0 | h0
        · rw [h0] at hlt; simp at hlt
        · exact h0
      rw [if_neg (by omega)] at hp
      cases a with
      | none => cases hp
      | some q =>
        cases hp
        rw [add_add]
        rw [List.getElem?_drop] at hj
        exact hR.cell q rfl _ v hj
    · cases hj

theorem QV.slice (T : Tab P) {o : Oper} {t e : TypeId} {x : Operand} {lo hi : Option Operand} {a : Option Addr} {n c l h : Nat} {ie : TypeInfo} (ho : o.op = .slice t x lo hi none) (hx : ev fr x = .slice a n c) (hd : T.desc t = some (.slice e)) (hi' : T.info e = some ie)
    (hlo : match lo with | none => l = 0 | some y => ∃ k, ev fr y = .int k (l : Int)) (hhi : match hi with | none => h = n | some y => ∃ k, ev fr y = .int k (h : Int)) (h1 : l ≤ h) (h2 : h ≤ c) :
    QV P w0 fr H o (.slice (subA a l c ie.size) (h - l) (c - l)) := by
  intro w _
  have e1 : ∀ z : Nat, (Instr.sliceBound (.int .i64 z) c .sliceAcap) = Instr.sliceBound (.int .i64 z) c .sliceAcap := fun _ => rfl
  simp only [execOp, ho, Instr.sliceAt, Instr.slice, Sem.run_bind, run_ul T hd, Result.andThen_ok, hx]
  cases hi with
  | none =>
    subst hhi
    cases lo with
    | none => subst hlo; simp [Instr.sliceBounds, run_size T hi', subA]
    | some y =>
      obtain ⟨k, hy⟩ := hlo
      simp [Instr.sliceBounds, Instr.sliceBound, asIntOf, hy, run_size T hi', subA, h1]
  | some z =>
    obtain ⟨kz, hz⟩ := hhi
    cases lo with
    | none => subst hlo; simp [Instr.sliceBounds, Instr.sliceBound, asIntOf, hz, run_size T hi', subA, h2]
    | some y =>
      obtain ⟨k, hy⟩ := hlo
      simp [Instr.sliceBounds, Instr.sliceBound, asIntOf, hy, hz, run_size T hi', subA, h1, h2]

theorem NV.slice (T : Tab P) {o : Oper} {R : Value → List Chunk → Prop} {t e : TypeId} {x : Operand} {lo hi : Option Operand} {a : Option Addr} {n c l h : Nat} {ie : TypeInfo}
    (ho : o.op = .slice t x lo hi none) (hx : ev fr x = .slice a n c) (hd : T.desc t = some (.slice e)) (hi' : T.info e = some ie)
    (hlo : match lo with | none => l = 0 | some y => ∃ k, ev fr y = .int k (l : Int)) (hhi : match hi with | none => h = n | some y => ∃ k, ev fr y = .int k (h : Int)) (h1 : l ≤ h) (h2 : h ≤ c)
    (hk : R (.slice (subA a l c ie.size) (h - l) (c - l)) H) : NV P w0 r fr H o R :=
  QV.nv P w0 r (fun c hc => by rw [ho] at hc; cases hc) (QV.slice T ho hx hd hi' hlo hhi h1 h2) hk

/-- A slice of the call's own cut to its first elements. -/
theorem Sat.shrink {w : World} {a : Option Addr} {n c e sz m : Nat} {xs : List Value} {k : Chunk → List Chunk} (hw : Sat w0 w H) (hat : At H (.row a n c e sz xs) k) (hm : m ≤ n) : Sat w0 w (k (.row a m c e sz (xs.take (m * sz)))) := by
  have ho := hw.holds _ hat.mem
  refine Sat.turn hw hat (.refl _ _) (fun _ _ _ => rfl) (d := .row a m c e sz (xs.take (m * sz))) ⟨?_, ?_⟩ (fun b hb => .inl hb)
  · rw [List.length_take, ho.1]; exact Nat.min_eq_left (Nat.mul_le_mul_right _ hm)
  · rcases ho.2 with ⟨h1, h2⟩ | ⟨g, cap, cur, h1, hB, hg, hn, hcm, hcs, htake⟩
    · cases h1
      have : m = 0 := by omega
      subst this
      exact .inl ⟨rfl, rfl⟩
    · cases h1
      refine .inr ⟨g, c, cur, rfl, hB, hg, by omega, hcm, hcs, ?_⟩
      rw [← htake, List.take_take, Nat.min_eq_left (Nat.mul_le_mul_right _ hm)]
theorem RL.shrink {ops : Array Oper} {l : List Oper} {K : Cont} {a : Option Addr} {n c e sz : Nat} (m : Nat) {xs : List Value} {k : Chunk → List Chunk} (hat : At H (.row a n c e sz xs) k) (hm : m ≤ n)
    (h : RL P w0 N r ops l fr ds (k (.row a m c e sz (xs.take (m * sz)))) K) : RL P w0 N r ops l fr ds H K := fun tmps w idx hi hr hs => h tmps w idx hi hr (Sat.shrink hs hat hm)

/-! ### calls -/
/-- A function that has a text. -/
def Fun (P : Program) (g : FuncId) : Prop := ∀ args w, (callFunc g args).run P w = .ok (.enter g args) w

theorem Fun.mk {g : FuncId} {fn : Func} (h : P.funcs[g]? = some fn) (h1 : (fn.name == "runtime.NumGoroutine") = false) (h2 : fn.body.isNone = false) : Fun P g := by
  intro args w
  have h1' : ¬ (fn.name == "runtime.NumGoroutine") = true := by rw [h1]; simp
  have h2' : ¬ fn.body.isNone = true := by rw [h2]; simp
  simp only [callFunc, Sem.run_bind, run_program, Result.andThen_ok, h]
  rw [if_neg h1', if_neg h2']
  rfl

theorem NV.call {o : Oper} {R R' : Value → List Chunk → Prop} {cl : Call} {f : Operand} {g : FuncId} {first cap args : Array Value} {as : List Value}
    (ho : o.op = .call cl) (hf : cl.callee = .value f) (hv : ev fr f = .func (.func g) first cap) (hfun : Fun P g) (ha : evs fr cl.args.toList = as) (hargs : (first.toList ++ as ++ cap.toList).toArray = args)
    (hc : SC P w0 g args H R') (hk : ∀ v H', R' v H' → R v H') : NV P w0 r fr H o R := by
  subst ha hargs
  refine ⟨fun c hc => (by rw [ho] at hc; cases hc), fun w hw => ?_⟩
  have e1 : first ++ cl.args.map (ev fr) ++ cap = (first.toList ++ evs fr cl.args.toList ++ cap.toList).toArray := by
    apply Array.ext'
    simp [← ev_map]
  simp only [execOp, ho, resolve, hf, hv, Deferred.ofValue, Sem.run_bind, Sem.run_pure, Result.andThen_ok, invoke, e1]
  rw [hfun _ w]
  exact (hc w hw).mono fun e w' ⟨v, H', he, hs, hR⟩ => ⟨v, H', he, hs, hk v H' hR⟩

/-! ### a function's beginning and end -/
def fr0 (args : Array Value) : Fr := fun t => args.toList.getD t undef
inductive RVs (w0 : World) (P : Program) (fr : Fr) (H : List Chunk) : List ResultVar → List Value → Prop
  | nil : RVs w0 P fr H [] []
  | tmp {t : Tmp} {v : Value} {rs : List ResultVar} {vs : List Value} (h : fr t = v) (hr : RVs w0 P fr H rs vs) : RVs w0 P fr H (.tmp t :: rs) (v :: vs)
  | cell {a : Tmp} {t : TypeId} {p : Addr} {v : Value} {rs : List ResultVar} {vs : List Value} (h : fr a = .pointer (some p)) (hl : ∀ w, Sat w0 w H → (loadVar t p).run P w = .ok v w) (hr : RVs w0 P fr H rs vs) : RVs w0 P fr H (.cell a t :: rs) (v :: vs)

def resV : List Value → Value
  | [v] => v
  | vs => .tuple vs.toArray

def retQ (P : Program) (w0 : World) (rs : List ResultVar) (R : Value → List Chunk → Prop) : Post := fun e fr ds H =>
  match e with
  | .normal => ds = [] ∧ ∃ vs H', RVs w0 P fr H rs vs ∧ (∀ w, Sat w0 w H → Sat w0 w H') ∧ R (resV vs) H'
  | .ret => ds = [] ∧ ∃ vs H', RVs w0 P fr H rs vs ∧ (∀ w, Sat w0 w H → Sat w0 w H') ∧ R (resV vs) H'
  | _ => False

theorem retQ.ret {rs : List ResultVar} {R : Value → List Chunk → Prop} {H' : List Chunk} {vs : List Value} (hv : RVs w0 P fr H rs vs) (hH : ∀ w, Sat w0 w H → Sat w0 w H') (h : R (resV vs) H') : retQ P w0 rs R .ret fr [] H := ⟨rfl, vs, H', hv, hH, h⟩
theorem retQ.norm {rs : List ResultVar} {R : Value → List Chunk → Prop} {H' : List Chunk} {vs : List Value} (hv : RVs w0 P fr H rs vs) (hH : ∀ w, Sat w0 w H → Sat w0 w H') (h : R (resV vs) H') : retQ P w0 rs R .normal fr [] H := ⟨rfl, vs, H', hv, hH, h⟩
theorem Sat.sub {w : World} {H' : List Chunk} (h : H'.Sublist H) (hw : Sat w0 w H) : Sat w0 w H' := ⟨hw.below, fun c hc => hw.holds c (h.subset hc), hw.apart.sublist h, hw.drawn⟩
theorem SW.cond_t {c : Operand} {x y : Code} {Q : Post} (hc : ev fr c = .bool true) (h : SW P w0 N r x fr ds H Q) : SW P w0 N r (.cond c x y) fr ds H Q := SW.cond hc (fun _ => h) (fun h => by cases h)
theorem SW.cond_f {c : Operand} {x y : Code} {Q : Post} (hc : ev fr c = .bool false) (h : SW P w0 N r y fr ds H Q) : SW P w0 N r (.cond c x y) fr ds H Q := SW.cond hc (fun h => by cases h) (fun _ => h)

theorem RVs.run {fn : Func} {vs : List Value} {tmps : Array Value} {w : World} (h : RVs w0 P fr H fn.results.toList vs) (hr : Rep N fr tmps) (hs : Sat w0 w H) : (results fn tmps).run P w = .ok (resV vs) w := by
  have key : ∀ (g : ResultVar → Sem Value), (∀ t, g (.tmp t) = Pure.pure (tmps.getD t undef)) → (∀ a t, g (.cell a t) = (do loadVar t (← asAddr (tmps.getD a undef)))) → ∀ (rs : List ResultVar) (vs : List Value), RVs w0 P fr H rs vs → (rs.mapM g).run P w = .ok vs w := by
    intro g g1 g2 rs vs h
    induction h with
    | nil => rfl
    | tmp h _ ih => simp only [List.mapM_cons, Sem.run_bind, g1, Sem.run_pure, Result.andThen_ok, ih, hr.get, h]
    | cell h hl _ ih => simp only [List.mapM_cons, Sem.run_bind, g2, Sem.run_pure, Result.andThen_ok, ih, hr.get, h, asAddr, hl w hs]
  unfold results
  rw [Array.mapM_eq_mapM_toList]
  simp only [Sem.run_bind, Sem.run_pure, map_eq_pure_bind]
  rw [key _ (fun _ => rfl) (fun _ _ => rfl) _ _ h]
  simp only [Result.andThen_ok]
  congr 1
  cases vs with
  | nil => rfl
  | cons v vs => cases vs <;> simp [resV]

theorem SC.enter {f : FuncId} {fn : Func} {c : Code} {args : Array Value} {R : Value → List Chunk → Prop} (hf : P.funcs[f]? = some fn) (hb : fn.body = some c) (hn : args.size ≤ fn.ntmps)
    (h : SW P w0 fn.ntmps none c (fr0 args) [] H (retQ P w0 fn.results.toList R)) : SC P w0 f args H R := by
  intro w hw
  have hrep : Rep fn.ntmps (fr0 args) (args ++ Array.replicate (fn.ntmps - args.size) undef) := by
    refine ⟨by simp; omega, fun i => ?_⟩
    simp only [fr0, Array.getD_eq_getD_getElem?, List.getD_eq_getElem?_getD, Array.getElem?_toList, Array.getElem?_append]
    split
    · rfl
    · rw [Array.getElem?_eq_none (xs := args) (by omega)]
      rw [Array.getElem?_replicate]
      split <;> rfl
  have h2 := h _ w hrep hw
  refine calls_of_wp hf hb ?_
  refine wp_mono (wpIn_wide.1 h2) ?_
  rintro e a w' ⟨fr', H', h1, h2, h3⟩
  cases e with
  | normal => obtain ⟨hd, vs, H2, hv, hH, hR⟩ := h3; exact ⟨hd, _, RVs.run hv h1 h2, _, H2, rfl, hH _ h2, hR⟩
  | ret => obtain ⟨hd, vs, H2, hv, hH, hR⟩ := h3; exact ⟨hd, _, RVs.run hv h1 h2, _, H2, rfl, hH _ h2, hR⟩
  | _ => exact h3.elim

theorem RVs.cell1 (T : Tab P) {a : Tmp} {t : TypeId} {p : Addr} {v : Value} {d : TypeDesc} {rs : List ResultVar} {vs : List Value} (h : fr a = .pointer (some p)) (hd : T.desc t = some d) (ha : isAggD d = false) (hc : Cell w0 H p v) (hr : RVs w0 P fr H rs vs) : RVs w0 P fr H (.cell a t :: rs) (v :: vs) :=
  .cell h (fun w hw => by simp [loadVar, run_isAgg T hd, ha, hc w hw]) hr
theorem RVs.cellN (T : Tab P) {a : Tmp} {t : TypeId} {p : Addr} {us : List Value} {d : TypeDesc} {i : TypeInfo} {rs : List ResultVar} {vs : List Value} (h : fr a = .pointer (some p)) (hd : T.desc t = some d) (ha : isAggD d = true) (hi : T.info t = some i) (hl : i.size = us.length)
    (hc : ∀ j v, us[j]? = some v → Cell w0 H (p.add j) v) (hr : RVs w0 P fr H rs vs) : RVs w0 P fr H (.cell a t :: rs) (.agg us.toArray :: vs) :=
  .cell h (fun w hw => by simp [loadVar, run_isAgg T hd, ha, run_size T hi, hl, run_loadCells_list (P := P) w p us (fun j v hj => hc j v hj w hw)]) hr

theorem RVs.var1 (T : Tab P) {a : Tmp} {t : TypeId} {b j : Nat} {v : Value} {d : TypeDesc} {tb : TypeId} {cells : List Value} {k : Chunk → List Chunk} {rs : List ResultVar} {vs : List Value} (h : fr a = .pointer (some ⟨b, j, none⟩)) (hd : T.desc t = some d) (ha : isAggD d = false)
    (hat : At H (.var b tb cells) k) (hv : cells[j]? = some v) (hr : RVs w0 P fr H rs vs) : RVs w0 P fr H (.cell a t :: rs) (v :: vs) :=
  RVs.cell1 T h hd ha (Cell.var hat hv) hr
theorem RVs.varN (T : Tab P) {a : Tmp} {t : TypeId} {b j : Nat} {us : List Value} {d : TypeDesc} {i : TypeInfo} {tb : TypeId} {cells : List Value} {k : Chunk → List Chunk} {rs : List ResultVar} {vs : List Value} (h : fr a = .pointer (some ⟨b, j, none⟩)) (hd : T.desc t = some d) (ha : isAggD d = true) (hi : T.info t = some i)
    (hat : At H (.var b tb cells) k) (hv : (cells.drop j).take i.size = us) (hl : i.size = us.length) (hr : RVs w0 P fr H rs vs) : RVs w0 P fr H (.cell a t :: rs) (.agg us.toArray :: vs) := by
  subst hv
  exact RVs.cellN T h hd ha hi hl (Cell.vars hat) hr
theorem upd_eta {fr : Fr} {d : Nat} {v : Value} (h : fr d = v) : fr = upd fr d v := (upd_self fr d v h).symm

/-! ### guards -/
theorem RL.guard_no {ops : Array Oper} {l : List Oper} {o : Oper} {K : Cont} {d : Nat} {b : Bool} (hs : gslot ops o = some (d, b)) (ht : isNot (fr d) b = true) (hN : dstOK N o.dst = true)
    (hk : RL P w0 N r ops l (putF fr o.dst undef) ds H K) : RL P w0 N r ops (o :: l) fr ds H K := by
  intro tmps w idx hi hr hsat
  cases idx with
  | nil => simp at hi
  | cons i idx =>
    simp only [List.map_cons, List.cons.injEq] at hi
    simp only [wpOpsIn, hi.1]
    rw [if_neg (by rw [wanted_not hs hr ht]; simp)]
    have hp := Rep.put (a := ⟨tmps, ds⟩) hr hN undef
    have := hk _ w idx hi.2 hp hsat
    refine ⟨fun _ _ => trivial, ?_⟩
    cases hdst : o.dst <;> simpa [Act.put, hdst] using this

theorem RL.split {ops : Array Oper} {l : List Oper} {K : Cont} (d : Nat) {t : Bool} (ht : fr d = .bool t) (h1 : t = true → RL P w0 N r ops l (upd fr d (.bool true)) ds H K) (h2 : t = false → RL P w0 N r ops l (upd fr d (.bool false)) ds H K) : RL P w0 N r ops l fr ds H K := by
  cases t with
  | true => have := h1 rfl; rwa [upd_self _ _ _ ht] at this
  | false => have := h2 rfl; rwa [upd_self _ _ _ ht] at this
end
end Go.Sep
namespace Go.Sep
open Go Go.RowKit
theorem QV.arith {P : Program} {w0 : World} {fr : Fr} {H : List Chunk} {o : Oper} {op : BinOp} {t yt : TypeId} {x y : Operand} {a b m : Int} (ho : o.op = .binOp op t x y yt) (hx : ev fr x = .int .i64 a) (hy : ev fr y = .int .i64 b) (hm : intv op .i64 a b = some (.int .i64 (IntKind.i64.wrap m)))
    (h1 : -9223372036854775808 ≤ m) (h2 : m ≤ 9223372036854775807) : QV P w0 fr H o (.int .i64 m) := by
  intro w _
  have hw : IntKind.i64.wrap m = m := wrap_in (by simpa only [loK] using h1) (by simpa only [hiK] using h2)
  rw [hw] at hm
  have hg : (eqGuard op t x y (.int .i64 a) (.int .i64 b)).run P w = .ok () w := by
    unfold eqGuard
    cases op <;> simp
  simp [execOp, ho, hx, hy, run_intv hm, hg]
theorem NV.arith {P : Program} {w0 : World} {r : Option Nat} {fr : Fr} {H : List Chunk} {o : Oper} {R : Value → List Chunk → Prop} {op : BinOp} {t yt : TypeId} {x y : Operand} {a b m : Int} (ho : o.op = .binOp op t x y yt) (hx : ev fr x = .int .i64 a) (hy : ev fr y = .int .i64 b) (hm : intv op .i64 a b = some (.int .i64 (IntKind.i64.wrap m)))
    (h1 : -9223372036854775808 ≤ m) (h2 : m ≤ 9223372036854775807) (hk : R (.int .i64 m) H) : NV P w0 r fr H o R :=
  QV.nv P w0 r (fun c hc => by rw [ho] at hc; cases hc) (QV.arith ho hx hy hm h1 h2) hk
theorem map_get {k : IntKind} (l : List Int) (j : Nat) (h : j < l.length) : (l.map (Value.int k))[j]? = some (.int k (l.getD j 0)) := by
  rw [List.getElem?_map, List.getElem?_eq_getElem h, List.getD_eq_getElem?_getD, List.getElem?_eq_getElem h]
  rfl
end Go.Sep

namespace Go.Sep
open Go Go.RowKit
section
variable {P : Program} {w0 : World} {fr : Fr} {H : List Chunk}
theorem QV.load_var1 (T : Tab P) {o : Oper} {t : TypeId} {x : Operand} {b j : Nat} {v : Value} {d : TypeDesc} {tb : TypeId} {cells : List Value} {k : Chunk → List Chunk} (ho : o.op = .load t x) (hx : ev fr x = .pointer (some ⟨b, j, none⟩)) (hd : T.desc t = some d) (ha : isAggD d = false)
    (hat : At H (.var b tb cells) k) (hv : cells[j]? = some v) : QV P w0 fr H o v := QV.load1 T ho hx hd ha (Cell.var hat hv)
theorem QV.load_varN (T : Tab P) {o : Oper} {t : TypeId} {x : Operand} {b j : Nat} {vs : List Value} {d : TypeDesc} {i : TypeInfo} {tb : TypeId} {cells : List Value} {k : Chunk → List Chunk} (ho : o.op = .load t x) (hx : ev fr x = .pointer (some ⟨b, j, none⟩)) (hd : T.desc t = some d) (ha : isAggD d = true) (hi : T.info t = some i)
    (hat : At H (.var b tb cells) k) (hv : (cells.drop j).take i.size = vs) (hl : i.size = vs.length) : QV P w0 fr H o (.agg vs.toArray) := by
  subst hv; exact QV.loadN T ho hx hd ha hi hl (Cell.vars hat)
theorem QV.load_elem (T : Tab P) {o : Oper} {t : TypeId} {x : Operand} {a : Option Addr} {n c : Nat} {j : Nat} {v : Value} {d : TypeDesc} {xs : List Value} (ho : o.op = .load t x) (hx : ev fr x = .pointer (some ((pa a).add (j * 1)))) (hd : T.desc t = some d) (ha : isAggD d = false)
    (hR : Rd w0 H a n c 1 xs) (hv : xs[j]? = some v) : QV P w0 fr H o v := QV.load1 T ho hx hd ha (hR.at hv)
end
end Go.Sep
