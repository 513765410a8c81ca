import Derived.Test.YtjemdjjmpgjieaaS23
import Derived.Test.YtjemdjjmpgjieaaS25
import Derived.Test.YtjemdjjmpgjieaaP5b
set_option linter.unusedVariables false
set_option linter.unusedSimpArgs false
/- A ring of frames in a variable. -/
namespace Go.Sep
open Go
/-- A frame, and where its bytes lie. -/
structure Fs where
  f : Frm
  a : Option Addr
  n : Nat
  c : Nat
instance : Inhabited Fs := ⟨⟨zeroF 0, none, 0, 0⟩⟩
abbrev FsA (x : Fs) : Value := FA x.f x.a x.n x.c
def FsC (x : Fs) : List Value := FC x.f x.a x.n x.c
instance : RowE FsC 11 := ⟨fun _ => rfl, fun r u hu => by
  simp only [FsC, FC, List.mem_cons, List.mem_nil_iff, or_false] at hu
  rcases hu with rfl | rfl | rfl | rfl | rfl | rfl | rfl | rfl | rfl | rfl | rfl <;> rfl⟩
structure FsOk (w0 : World) (H : List Chunk) (x : Fs) : Prop where
  len : x.n = x.f.data.length
  max : x.n ≤ 140737488351232
  ok : FrOk x.f
  rd : Rd w0 H x.a x.n x.c 1 (x.f.data.map (.int .u8))
theorem FsOk.weaken {w0 : World} {H H' : List Chunk} {x : Fs} (hH : ∀ w, Sat w0 w H' → Sat w0 w H) (h : FsOk w0 H x) : FsOk w0 H' x := ⟨h.len, h.max, h.ok, h.rd.weaken hH⟩
theorem FsOk.cons {w0 : World} {H : List Chunk} {x : Fs} {c : Chunk} (h : FsOk w0 H x) : FsOk w0 (c :: H) x := h.weaken fun _ => Sat.tail
theorem FsOk.app {w0 : World} {G H : List Chunk} {x : Fs} (h : FsOk w0 H x) : FsOk w0 (G ++ H) x := h.weaken fun _ => Sat.app
theorem FsOk.appr {w0 : World} {G H : List Chunk} {x : Fs} (h : FsOk w0 G x) : FsOk w0 (G ++ H) x := h.weaken fun _ hw => Sat.sub (List.sublist_append_left G H) hw
theorem FsOk.dflt {w0 : World} {H : List Chunk} : FsOk w0 H default := ⟨rfl, by decide, ⟨by decide, by decide, by decide, by decide, by decide, Byte.nil⟩, Rd.nilS⟩
def ringC (R : Nat → Fs) : List Value := (List.range 64).flatMap fun i => FsC (R i)
def FifoC (R : Nat → Fs) (room first n over : Int) : List Value := ringC R ++ [.int .i64 room, .int .i64 first, .int .i64 n, .int .i64 over]
def updR (R : Nat → Fs) (j : Nat) (x : Fs) : Nat → Fs := fun i => if i = j then x else R i
theorem flat11 {α : Type} (g : α → List Value) (hg : ∀ a, (g a).length = 11) : ∀ l : List α, (l.flatMap g).length = l.length * 11
  | [] => rfl
  | a :: l => by rw [List.flatMap_cons, List.length_append, hg, flat11 g hg l, List.length_cons]; omega
theorem ringC_len (R : Nat → Fs) : (ringC R).length = 704 := by
  unfold ringC
  rw [flat11 _ (fun _ => rfl), List.length_range]
theorem FifoC_len (R : Nat → Fs) (room first n over : Int) : (FifoC R room first n over).length = 708 := by
  unfold FifoC; rw [List.length_append, ringC_len]; rfl
theorem fifo_get {R : Nat → Fs} {room first n over : Int} (k : Nat) {v : Value} (h : [Value.int .i64 room, .int .i64 first, .int .i64 n, .int .i64 over][k]? = some v) : (FifoC R room first n over)[704 + k]? = some v := by
  unfold FifoC
  rw [List.getElem?_append_right (by rw [ringC_len]; omega), ringC_len, Nat.add_sub_cancel_left]
  exact h
theorem fifo_set {R : Nat → Fs} {room first n over : Int} (k : Nat) {v : Value} : (FifoC R room first n over).set (704 + k) v = ringC R ++ [Value.int .i64 room, .int .i64 first, .int .i64 n, .int .i64 over].set k v := by
  unfold FifoC
  rw [List.set_append_right _ _ (by rw [ringC_len]; omega), ringC_len, Nat.add_sub_cancel_left]
theorem flat11_get {α : Type} (g : α → List Value) (hg : ∀ a, (g a).length = 11) : ∀ (l : List α) (j k : Nat) (a : α), l[j]? = some a → k < 11 → (l.flatMap g)[j * 11 + k]? = (g a)[k]?
  | [], j, k, a, h, _ => by simp at h
  | b :: l, 0, k, a, h, hk => by
    simp only [List.getElem?_cons_zero, Option.some.injEq] at h
    subst h
    rw [List.flatMap_cons, Nat.zero_mul, Nat.zero_add, List.getElem?_append_left (by rw [hg]; exact hk)]
  | b :: l, j + 1, k, a, h, hk => by
    rw [List.flatMap_cons, List.getElem?_append_right (by rw [hg]; omega), hg, show (j + 1) * 11 + k - 11 = j * 11 + k by omega]
    exact flat11_get g hg l j k a (by simpa using h) hk
theorem ring_get {R : Nat → Fs} {room first n over : Int} {j k : Nat} (hj : j < 64) (hk : k < 11) : (FifoC R room first n over)[j * 11 + k]? = (FsC (R j))[k]? := by
  unfold FifoC ringC
  rw [List.getElem?_append_left (by rw [flat11 _ (fun _ => rfl), List.length_range]; omega)]
  exact flat11_get (fun i => FsC (R i)) (fun _ => rfl) _ j k j (by simp [hj]) hk
theorem flat11_upd (R : Nat → Fs) (x : Fs) (j : Nat) : ∀ (l : List Nat) (p : Nat), l[p]? = some j → l.Nodup → spliceL (l.flatMap fun i => FsC (R i)) (p * 11) (FsC x) = l.flatMap fun i => FsC (updR R j x i)
  | [], p, h, _ => by simp at h
  | b :: l, 0, h, hn => by
    simp only [List.getElem?_cons_zero, Option.some.injEq] at h
    subst h
    have hb : ∀ i ∈ l, FsC (updR R b x i) = FsC (R i) := fun i hi => by
      have hne : i ≠ b := by rintro rfl; exact (List.nodup_cons.1 hn).1 hi
      unfold updR; rw [if_neg hne]
    have e1 : FsC (updR R b x b) = FsC x := by unfold updR; rw [if_pos rfl]
    have e2 : (l.flatMap fun i => FsC (updR R b x i)) = l.flatMap fun i => FsC (R i) := by
      clear hn e1
      induction l with
      | nil => rfl
      | cons c l ih =>
        rw [List.flatMap_cons, List.flatMap_cons, hb c (by simp), ih (fun i hi => hb i (by simp [hi]))]
    rw [List.flatMap_cons, List.flatMap_cons, e1, e2]
    unfold spliceL
    have hl : (FsC (R b)).length = 11 := rfl
    have hx : (FsC x).length = 11 := rfl
    rw [Nat.zero_mul, List.take_zero, List.nil_append, Nat.zero_add, hx, List.drop_append_of_le_length (by omega), List.drop_of_length_le (by omega), List.nil_append]
  | b :: l, p + 1, h, hn => by
    have ih := flat11_upd R x j l p (by simpa using h) (List.nodup_cons.1 hn).2
    have hjb : b ≠ j := by
      rintro rfl
      have : b ∈ l := List.mem_of_getElem? (by simpa using h)
      exact (List.nodup_cons.1 hn).1 this
    have e1 : FsC (updR R j x b) = FsC (R b) := by unfold updR; rw [if_neg hjb]
    rw [List.flatMap_cons, List.flatMap_cons, e1, ← ih]
    unfold spliceL
    have hl : (FsC (R b)).length = 11 := rfl
    rw [show (p + 1) * 11 = 11 + p * 11 by omega, List.take_append, hl, List.take_of_length_le (by omega), Nat.add_sub_cancel_left, show 11 + p * 11 + (FsC x).length = 11 + (p * 11 + (FsC x).length) by omega, List.drop_append, hl, List.drop_of_length_le (by omega), List.nil_append, Nat.add_sub_cancel_left, List.append_assoc, List.append_assoc, List.append_assoc]
theorem ring_put {R : Nat → Fs} {room first n over : Int} {j : Nat} {x : Fs} (hj : j < 64) : spliceL (FifoC R room first n over) (j * 11) (FsC x) = FifoC (updR R j x) room first n over := by
  have h := flat11_upd R x j (List.range 64) j (by simp [hj]) List.nodup_range
  have hx : (FsC x).length = 11 := rfl
  unfold FifoC ringC
  rw [← h]
  unfold spliceL
  have hl : ((List.range 64).flatMap fun i => FsC (R i)).length = 704 := ringC_len R
  rw [List.take_append_of_le_length (by omega), List.drop_append_of_le_length (by omega), List.append_assoc, List.append_assoc, List.append_assoc]
section
variable {P : Program} {w0 : World} {N : Nat} {r : Option Nat} {fr : Fr} {ds : List Deferred} {H : List Chunk} {ops : Array Oper} {l : List Oper} {o : Oper} {K : Cont} {dd : Option Tmp}
/-- A number of the ring's is read. -/
theorem QV.fld (k : Nat) (T : Tab P) {t tb : TypeId} {x : Operand} {b : Nat} {d : TypeDesc} {v : Value} {room first n over : Int} {R : Nat → Fs} {kk : Chunk → List Chunk} (hv : [Value.int .i64 room, .int .i64 first, .int .i64 n, .int .i64 over][k]? = some v)
    (ho : o.op = .load t x := by rfl) (hx : ev fr x = .pointer (some ⟨b, 704 + k, none⟩) := by rfl) (hd : T.desc t = some d := by rfl) (ha : isAggD d = false := by rfl)
    (hat : At H (.var b tb (FifoC R room first n over)) kk := by repeat first | exact At.head _ _ | assumption | exact At.put (by assumption) _ | apply At.tail | apply At.app) : QV P w0 fr H o v := QV.load_var1 T ho hx hd ha hat (fifo_get k hv)
theorem NV.fstF (T : Tab P) {Q : Value → List Chunk → Prop} {t tb : TypeId} {x y : Operand} {b : Nat} {i : TypeInfo} {z room first n over : Int} {R : Nat → Fs} {kk : Chunk → List Chunk} (h : Q undef (kk (.var b tb (FifoC R room z n over))))
    (ho : o.op = .store t x y := by rfl) (hx : ev fr x = .pointer (some ⟨b, 705, none⟩) := by rfl) (hi : T.info t = some i := by rfl) (hs : Nat.beq i.size 1 = true := by rfl) (hv : ev fr y = .int .i64 z := by rfl)
    (hat : At H (.var b tb (FifoC R room first n over)) kk := by repeat first | exact At.head _ _ | assumption | exact At.put (by assumption) _ | apply At.tail | apply At.app) : NV P w0 r fr H o Q := by
  refine NV.store_var1 T ho hx hi hs hv rfl hat ?_ (fifo_set 1) h
  rw [FifoC_len]; rfl
theorem NV.fstN (T : Tab P) {Q : Value → List Chunk → Prop} {t tb : TypeId} {x y : Operand} {b : Nat} {i : TypeInfo} {z room first n over : Int} {R : Nat → Fs} {kk : Chunk → List Chunk} (h : Q undef (kk (.var b tb (FifoC R room first z over))))
    (ho : o.op = .store t x y := by rfl) (hx : ev fr x = .pointer (some ⟨b, 706, none⟩) := by rfl) (hi : T.info t = some i := by rfl) (hs : Nat.beq i.size 1 = true := by rfl) (hv : ev fr y = .int .i64 z := by rfl)
    (hat : At H (.var b tb (FifoC R room first n over)) kk := by repeat first | exact At.head _ _ | assumption | exact At.put (by assumption) _ | apply At.tail | apply At.app) : NV P w0 r fr H o Q := by
  refine NV.store_var1 T ho hx hi hs hv rfl hat ?_ (fifo_set 2) h
  rw [FifoC_len]; rfl
theorem NV.fstO (T : Tab P) {Q : Value → List Chunk → Prop} {t tb : TypeId} {x y : Operand} {b : Nat} {i : TypeInfo} {z room first n over : Int} {R : Nat → Fs} {kk : Chunk → List Chunk} (h : Q undef (kk (.var b tb (FifoC R room first n z))))
    (ho : o.op = .store t x y := by rfl) (hx : ev fr x = .pointer (some ⟨b, 707, none⟩) := by rfl) (hi : T.info t = some i := by rfl) (hs : Nat.beq i.size 1 = true := by rfl) (hv : ev fr y = .int .i64 z := by rfl)
    (hat : At H (.var b tb (FifoC R room first n over)) kk := by repeat first | exact At.head _ _ | assumption | exact At.put (by assumption) _ | apply At.tail | apply At.app) : NV P w0 r fr H o Q := by
  refine NV.store_var1 T ho hx hi hs hv rfl hat ?_ (fifo_set 3) h
  rw [FifoC_len]; rfl
/-- A place of the ring is read. -/
theorem QV.rg (T : Tab P) {t tb : TypeId} {x : Operand} {b j : Nat} {d : TypeDesc} {i : TypeInfo} {room first n over : Int} {R : Nat → Fs} {kk : Chunk → List Chunk} (hj : j < 64)
    (ho : o.op = .load t x := by rfl) (hx : ev fr x = .pointer (some ⟨b, j * 11, none⟩) := by rfl) (hd : T.desc t = some d := by rfl) (ha : isAggD d = true := by rfl) (hi : T.info t = some i := by rfl) (hs : Nat.beq i.size 11 = true := by rfl)
    (hat : At H (.var b tb (FifoC R room first n over)) kk := by repeat first | exact At.head _ _ | assumption | exact At.put (by assumption) _ | apply At.tail | apply At.app) : QV P w0 fr H o (FsA (R j)) := by
  refine QV.loadN (vs := FsC (R j)) T ho hx hd ha hi (Nat.eq_of_beq_eq_true hs) (fun k v hv => ?_)
  have hk : k < 11 := (List.getElem?_eq_some_iff.1 hv).1
  have h := Cell.var (w0 := w0) (o := j * 11 + k) hat (v := v) (by rw [ring_get hj hk]; exact hv)
  rw [addv]; exact h
/-- A place of the ring is written. -/
theorem NV.rgS (T : Tab P) {Q : Value → List Chunk → Prop} {t tb : TypeId} {x y : Operand} {b j : Nat} {i : TypeInfo} {q : Fs} {room first n over : Int} {R : Nat → Fs} {kk : Chunk → List Chunk} (hj : j < 64) (hv : (ev fr y).cells.toList = FsC q) (h : Q undef (kk (.var b tb (FifoC (updR R j q) room first n over))))
    (ho : o.op = .store t x y := by rfl) (hx : ev fr x = .pointer (some ⟨b, j * 11, none⟩) := by rfl) (hi : T.info t = some i := by rfl) (hs : Nat.beq i.size 11 = true := by rfl)
    (hat : At H (.var b tb (FifoC R room first n over)) kk := by repeat first | exact At.head _ _ | assumption | exact At.put (by assumption) _ | apply At.tail | apply At.app) : NV P w0 r fr H o Q := by
  refine NV.store_var T ho hx hi hv (Nat.eq_of_beq_eq_true hs) rfl hat ?_ (ring_put hj) h
  rw [FifoC_len]
  show j * 11 + 11 ≤ 708
  omega
/-- A new ring. -/
theorem NV.boxF {Q : Value → List Chunk → Prop} {t : TypeId} {x : Operand} {R : Nat → Fs} {room first n over : Int} (ho : o.op = .box t x) (hx : (ev fr x).cells.toList = FifoC R room first n over) (h : ∀ b, Q (.pointer (some ⟨b, 0, none⟩)) (.var b t (FifoC R room first n over) :: H)) : NV P w0 r fr H o Q := NV.box ho hx h
end
def rowOf (x : Fs) : Chunk := .row x.a x.n x.c 5 1 (x.f.data.map (.int .u8))
/-- The rows of frames' bytes, the newest first. -/
def rowsOf (L : List Fs) : List Chunk := (L.map rowOf).reverse
theorem rowsOf_snoc (L : List Fs) (x : Fs) : rowsOf (L ++ [x]) = rowOf x :: rowsOf L := by simp [rowsOf]
def frs (L : List Fs) : List Frm := L.map (·.f)
theorem At.of_mem {H : List Chunk} {c : Chunk} (h : c ∈ H) : ∃ k, At H c k := by
  induction H with
  | nil => cases h
  | cons d H ih =>
    rcases List.mem_cons.1 h with rfl | h
    · exact ⟨_, At.head _ _⟩
    · obtain ⟨k, hk⟩ := ih h
      exact ⟨_, At.tail hk⟩
theorem rows_ok {w0 : World} {L : List Fs} (hs : ∃ w, Sat w0 w (rowsOf L)) (hn : ∀ x ∈ L, x.n = x.f.data.length) (hm : ∀ x ∈ L, x.f.data.length ≤ 140737488351232) (hf : ∀ x ∈ L, FrOk x.f) : ∀ x ∈ L, FsOk w0 (rowsOf L) x := fun x hx => by
  refine ⟨hn x hx, by rw [hn x hx]; exact hm x hx, hf x hx, ?_⟩
  have hmem : rowOf x ∈ rowsOf L := by simp only [rowsOf, List.mem_reverse]; exact List.mem_map_of_mem hx
  obtain ⟨k, hk⟩ := At.of_mem hmem
  exact Rd.rowh hs hk
theorem getD_mem {L : List Fs} {P : Fs → Prop} (hd : P default) (h : ∀ x ∈ L, P x) (k : Nat) : P (L.getD k default) := by
  rcases Nat.lt_or_ge k L.length with hk | hk
  · rw [List.getD_eq_getElem?_getD, List.getElem?_eq_getElem hk]; exact h _ (List.getElem_mem hk)
  · rw [List.getD_eq_getElem?_getD, List.getElem?_eq_none hk]; exact hd
theorem fs_take {L : List Fs} {k : Nat} (hk : k < L.length) : L.take (k + 1) = L.take k ++ [L.getD k default] := by
  rw [List.take_succ_eq_append_getElem hk, List.getD_eq_getElem?_getD, List.getElem?_eq_getElem hk]; rfl
theorem frs_take {L : List Fs} {k : Nat} (hk : k < L.length) : frs (L.take (k + 1)) = frs (L.take k) ++ [(L.getD k default).f] := by
  rw [fs_take hk]; simp [frs]
/-- The ring holds these, from the first place on. -/
structure RingIs (R : Nat → Fs) (first : Nat) (L : List Fs) : Prop where
  lt : first < 64
  len : L.length ≤ 64
  get : ∀ i, i < L.length → R ((first + i) % 64) = L.getD i default
theorem RingIs.nil (R : Nat → Fs) : RingIs R 0 [] := ⟨by omega, by simp, fun i h => by simp at h⟩
theorem RingIs.push {R : Nat → Fs} {first : Nat} {L : List Fs} (h : RingIs R first L) (hl : L.length < 64) (x : Fs) : RingIs (updR R ((first + L.length) % 64) x) first (L ++ [x]) := by
  have h1 := h.lt
  refine ⟨h1, by simp; omega, fun i hi => ?_⟩
  rw [List.length_append, List.length_singleton] at hi
  unfold updR
  by_cases he : i = L.length
  · subst he
    rw [if_pos rfl]; simp [List.getD_eq_getElem?_getD]
  · rw [if_neg (by omega), h.get i (by omega)]
    rw [List.getD_eq_getElem?_getD, List.getD_eq_getElem?_getD, List.getElem?_append_left (by omega)]
theorem RingIs.pop {R : Nat → Fs} {first : Nat} {L : List Fs} (h : RingIs R first L) (hl : 0 < L.length) : R (first % 64) = L.getD 0 default ∧ RingIs (updR R (first % 64) default) ((first + 1) % 64) L.tail := by
  have h1 := h.lt
  have h2 := h.len
  have h0 := h.get 0 hl
  rw [Nat.add_zero] at h0
  refine ⟨h0, Nat.mod_lt _ (by omega), by rw [List.length_tail]; omega, fun i hi => ?_⟩
  rw [List.length_tail] at hi
  have h3 := h.get (i + 1) (by omega)
  unfold updR
  rw [if_neg (by omega), show ((first + 1) % 64 + i) % 64 = (first + (i + 1)) % 64 by omega, h3]
  rw [List.getD_eq_getElem?_getD, List.getD_eq_getElem?_getD, List.getElem?_tail]
def pushI (room n : Nat) (f : Frm) : Bool := decide (chkF f = 0 ∧ n < room)
def pushL (room : Nat) (l : List Frm) (f : Frm) : List Frm := if chkF f = 0 ∧ l.length < room then l ++ [f] else l
def pushO (room n over : Nat) (f : Frm) : Nat := if chkF f = 0 ∧ room ≤ n then over + 1 else over
theorem frs_len (L : List Fs) : (frs L).length = L.length := by simp [frs]
instance : DecidableEq Frm := fun a b => decidable_of_iff (sameF a b = true) sameF_iff
theorem same_frs_step {ps qs : List Fs} {k : Nat} (h1 : k < ps.length) (h2 : k < qs.length) (h : frs (ps.take k) = frs (qs.take k)) (e : sameF (ps.getD k default).f (qs.getD k default).f = true) : frs (ps.take (k + 1)) = frs (qs.take (k + 1)) := by
  rw [frs_take h1, frs_take h2, h, sameF_iff.1 e]
theorem same_frs_ne {ps qs : List Fs} {k : Nat} (h1 : k < ps.length) (h2 : k < qs.length) (e : sameF (ps.getD k default).f (qs.getD k default).f = false) : decide (frs ps = frs qs) = false := by
  refine decide_eq_false fun h => ?_
  have h3 := congrArg (fun l => l.getD k (zeroF 0)) h
  simp only [frs, List.getD_eq_getElem?_getD, List.getElem?_map, List.getElem?_eq_getElem h1, List.getElem?_eq_getElem h2, Option.map_some, Option.getD_some] at h3
  rw [List.getD_eq_getElem?_getD, List.getD_eq_getElem?_getD, List.getElem?_eq_getElem h1, List.getElem?_eq_getElem h2, Option.getD_some, Option.getD_some, h3, sameF_refl] at e
  cases e
theorem same_frs_len {ps qs : List Fs} (h : ps.length ≠ qs.length) : decide (frs ps = frs qs) = false := decide_eq_false fun e => h (by rw [← frs_len ps, ← frs_len qs, e])
theorem frs_tail (L : List Fs) : frs L.tail = (frs L).tail := by cases L <;> rfl
theorem frs_get (L : List Fs) (k : Nat) (h : k < L.length) : (L.getD k default).f = (frs L).getD k (zeroF 0) := by
  simp [frs, List.getD_eq_getElem?_getD, h]
theorem At.same {H : List Chunk} {c : Chunk} {k : Chunk → List Chunk} (h : At H c k) : k c = H := by
  induction h with
  | head => rfl
  | tail _ ih => exact congrArg (List.cons _) ih
theorem satmv {w0 w : World} {D G X : List Chunk} {c d : Chunk} (h : Sat w0 w (D ++ (c :: d :: (G ++ X)))) : Sat w0 w (d :: ((D ++ G) ++ X)) := by
  have p : (D ++ (c :: d :: (G ++ X))).Perm (c :: d :: ((D ++ G) ++ X)) := by
    refine List.perm_middle.trans (.cons _ (List.perm_middle.trans (.cons _ ?_)))
    rw [List.append_assoc]
  exact (h.perm p).tail
theorem satmv0 {w0 w : World} {D G X : List Chunk} {d : Chunk} (h : Sat w0 w (D ++ (d :: (G ++ X)))) : Sat w0 w (d :: ((D ++ G) ++ X)) := by
  have p : (D ++ (d :: (G ++ X))).Perm (d :: ((D ++ G) ++ X)) := by
    refine List.perm_middle.trans (.cons _ ?_)
    rw [List.append_assoc]
  exact h.perm p
/-- how many of these may be -/
def cntG (l : List Frm) : Nat := (l.filter fun f => decide (chkF f = 0)).length
theorem cntG_snoc (l : List Frm) (f : Frm) : cntG (l ++ [f]) = cntG l + (if chkF f = 0 then 1 else 0) := by
  unfold cntG
  rw [List.filter_append, List.length_append]
  by_cases h : chkF f = 0 <;> simp [h]
theorem cntG_le (l : List Frm) : cntG l ≤ l.length := List.length_filter_le _ _
theorem frs_nil {L : List Fs} (h : frs L = []) : L = [] := by cases L with | nil => rfl | cons a l => cases h
def F1 : Frm := ⟨1, 1, false, false, false, false, false, 0, 0, 0, []⟩
theorem F1_ok {w0 : World} {H : List Chunk} : FsOk w0 H ⟨F1, none, 0, 0⟩ := ⟨rfl, by decide, ⟨by decide, by decide, by decide, by decide, by decide, Byte.nil⟩, Rd.nilS⟩
theorem cntG_step {L : List Fs} {k : Nat} (hk : k < L.length) : (chkF (L.getD k default).f = 0 ∧ cntG (frs (L.take (k + 1))) = cntG (frs (L.take k)) + 1) ∨ (chkF (L.getD k default).f ≠ 0 ∧ cntG (frs (L.take (k + 1))) = cntG (frs (L.take k))) := by
  rw [frs_take hk, cntG_snoc]
  by_cases h : chkF (L.getD k default).f = 0
  · exact .inl ⟨h, by rw [if_pos h]⟩
  · exact .inr ⟨h, by rw [if_neg h]; rfl⟩
theorem cntG_max (L : List Fs) (k : Nat) : cntG (frs (L.take k)) ≤ L.length := by
  refine Nat.le_trans (cntG_le _) ?_
  rw [frs_len, List.length_take]; omega
theorem pushO_or (room n over : Nat) (f : Frm) : (chkF f = 0 ∧ room ≤ n ∧ pushO room n over f = over + 1) ∨ ((chkF f ≠ 0 ∨ n < room) ∧ pushO room n over f = over) := by
  unfold pushO
  by_cases h : chkF f = 0 ∧ room ≤ n
  · exact .inl ⟨h.1, h.2, if_pos h⟩
  · exact .inr ⟨by omega, if_neg h⟩
theorem pushL_or (room : Nat) (l : List Frm) (f : Frm) : (chkF f = 0 ∧ l.length < room ∧ pushL room l f = l ++ [f]) ∨ ((chkF f ≠ 0 ∨ room ≤ l.length) ∧ pushL room l f = l) := by
  unfold pushL
  by_cases h : chkF f = 0 ∧ l.length < room
  · exact .inl ⟨h.1, h.2, if_pos h⟩
  · exact .inr ⟨by omega, if_neg h⟩
end Go.Sep
