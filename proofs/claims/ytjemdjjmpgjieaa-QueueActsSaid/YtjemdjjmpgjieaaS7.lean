import Derived.Test.YtjemdjjmpgjieaaS6
import Derived.ChangeArms
import Derived.OpenShut
import Derived.DataReads
set_option linter.unusedVariables false
set_option linter.unusedSimpArgs false
/- What came in, told by its type: the rows' openings for all types without pointers. -/
namespace Go.Sep
open Go Go.RowKit Go.ChangeShapes Go.WideShapes
variable {Hd : Type} {enc : TypeId × Value → Hd} {P : Program} {W : World}
/-- What a value's cells are, by its type. -/
def Ok (P : Program) (W : World) : Nat → TypeId → List Value → Prop
  | 0, _, _ => False
  | n + 1, t, cs => match P.underlying t with
    | some (.int k) => ∃ z, cs = [.int k z] ∧ loK k ≤ z ∧ z ≤ hiK k
    | some .bool => ∃ b, cs = [.bool b]
    | some .string => ∃ s, cs = [.string s] ∧ s.size ≤ reachBytes
    | some (.slice e) => ∃ (sa : Option Addr) (m c : Nat) (xs : List Value), cs = [.slice sa m c] ∧ m ≤ c ∧ c * P.bytesOf e ≤ reachBytes ∧ (∀ H, Rd W H sa m c (P.cellsOf e) xs) ∧
        ∀ i, i < m → Ok P W n e ((xs.drop (i * P.cellsOf e)).take (P.cellsOf e))
    | some (.struct fs) => cs.length = P.cellsOf t ∧ ∀ (i : Nat) (f : Field), fs[i]? = some f → Ok P W n f.type ((cs.drop f.offset).take (P.cellsOf f.type))
    | some (.array m e) => cs.length = P.cellsOf t ∧ ∀ i, i < m → Ok P W n e ((cs.drop (i * P.cellsOf e)).take (P.cellsOf e))
    | _ => True
theorem weights_each {ts : List TypeId} {ds : List (DataW Hd)} (h : ∀ x ∈ DataW.weightsEach P ts ds, x ≤ reachBytes) {j : Nat} {t : TypeId} {d : DataW Hd} (ht : ts[j]? = some t) (hd : ds[j]? = some d) : ∀ x ∈ d.weights P t, x ≤ reachBytes :=
  fun x hx => h x (DataW.weights_mem_each ht hd x hx)
theorem weights_all {e : TypeId} : ∀ {ds : List (DataW Hd)}, (∀ x ∈ DataW.weightsAll P e ds, x ≤ reachBytes) → ∀ {j : Nat} {d : DataW Hd}, ds[j]? = some d → ∀ x ∈ d.weights P e, x ≤ reachBytes
  | [], _, _, _, hd, _, _ => by simp at hd
  | d0 :: ds, h, 0, d, hd, x, hx => by
    cases hd
    exact h x (by simp only [DataW.weightsAll, List.mem_append]; exact .inl hx)
  | d0 :: ds, h, j + 1, d, hd, x, hx => weights_all (ds := ds) (fun y hy => h y (by simp only [DataW.weightsAll, List.mem_append]; exact .inr hy)) (j := j) (by simpa using hd) x hx
/-- The cells of a row one behind the other. -/
theorem flat_rows {sz : Nat} (f : Nat → List Value) : ∀ (n : Nat), (∀ i, i < n → (f i).length = sz) → ((List.range n).flatMap f).length = n * sz ∧ ∀ i, i < n → ((((List.range n).flatMap f).drop (i * sz)).take sz) = f i
  | 0, _ => ⟨by simp, fun i hi => absurd hi (Nat.not_lt_zero _)⟩
  | n + 1, h => by
    obtain ⟨h1, h2⟩ := flat_rows f n (fun i hi => h i (by omega))
    rw [List.range_succ, List.flatMap_append]
    refine ⟨by simp [h1, h n (by omega), Nat.add_mul], fun i hi => ?_⟩
    rcases Nat.lt_or_ge i n with hlt | hge
    · have hle : i * sz + sz ≤ n * sz := by rw [← Nat.succ_mul]; exact Nat.mul_le_mul_right _ hlt
      rw [List.drop_append_of_le_length (by rw [h1]; omega), List.take_append_of_le_length (by rw [List.length_drop, h1]; omega)]
      exact h2 i hlt
    · obtain rfl : i = n := by omega
      rw [List.drop_append, h1, Nat.sub_self, List.drop_of_length_le (by rw [h1]; omega)]
      simp only [List.nil_append, List.drop_zero, List.range_one, List.flatMap_cons, List.flatMap_nil, List.append_nil, List.flatMap_singleton]
      exact List.take_of_length_le (by rw [h i (by omega)]; omega)
theorem Ok.of : ∀ (fuel : Nat) (t : TypeId) (cs : List Value) (x : DataW Hd × List MemPlace), DataW.trod enc P W 0 (fun _ => true) true fuel t cs = some x → (∀ y ∈ x.1.weights P t, y ≤ reachBytes) → Ok P W fuel t cs
  | 0, t, cs, x, h, _ => by simp [DataW.trod] at h
  | n + 1, t, cs, x, h, hw => by
    unfold Ok
    cases hu : P.underlying t with
    | none => trivial
    | some u =>
      cases u with
      | int k =>
        obtain ⟨z, rfl, _, hz⟩ := DataW.trod_int hu h
        exact ⟨z, rfl, wf_in hz⟩
      | bool =>
        obtain ⟨b, rfl, _⟩ := DataW.trod_bool hu h
        exact ⟨b, rfl⟩
      | string =>
        unfold DataW.trod at h
        rw [hu] at h
        split at h <;> simp_all
        obtain ⟨h1, rfl⟩ := h
        have := hw _ (by simp [DataW.weights]; rfl)
        simpa using this
      | slice e =>
        rcases DataW.trod_slice hu h with ⟨rfl, rfl⟩ | ⟨a, len, cap, elems, rest, m, hm, rfl, rfl, _, hle, _, hlen, hel, hsp, _⟩
        · exact ⟨none, 0, 0, [], rfl, Nat.le_refl _, by simp, fun H => ⟨by simp, Nat.le_refl _, fun h => absurd h (by simp), fun p hp => by cases hp⟩, fun i hi => absurd hi (Nat.not_lt_zero _)⟩
        · cases hm
          obtain ⟨hrest, hspare⟩ := hsp rfl
          simp only [DataW.weights, hu] at hw
          have hcell : ∀ i, i < len → ∃ ys y, W.cells? 0 (a.add (i * P.cellsOf e)) (P.cellsOf e) = some ys ∧ elems[i]? = some y ∧ DataW.trod enc P W 0 (fun _ => true) true n e ys = some y := by
            intro i hi
            have h1 := hel i hi
            have hi' : i < elems.length := by omega
            rw [List.getElem?_eq_getElem hi'] at h1
            cases hc : W.cells? 0 (a.add (i * P.cellsOf e)) (P.cellsOf e) with
            | none => rw [hc] at h1; cases h1
            | some ys => rw [hc] at h1; exact ⟨ys, _, rfl, List.getElem?_eq_getElem hi', h1⟩
          let f : Nat → List Value := fun i => (W.cells? 0 (a.add (i * P.cellsOf e)) (P.cellsOf e)).getD []
          have hf : ∀ i, i < len → W.cells? 0 (a.add (i * P.cellsOf e)) (P.cellsOf e) = some (f i) := by
            intro i hi
            obtain ⟨ys, _, h1, _⟩ := hcell i hi
            show _ = some ((W.cells? 0 (a.add (i * P.cellsOf e)) (P.cellsOf e)).getD [])
            rw [h1]; rfl
          have hfl : ∀ i, i < len → (f i).length = P.cellsOf e := fun i hi => (World.cells?_some (hf i hi)).2.1
          obtain ⟨k1, k2⟩ := flat_rows f len hfl
          refine ⟨some a, len, cap, (List.range len).flatMap f, rfl, hle, ?_, fun H => ⟨k1, hle, fun _ => rfl, fun p hp j v hj => ?_⟩, fun i hi => ?_⟩
          · have := hw ((elems.length + rest.length) * P.bytesOf e) (by simp)
            rw [hlen, hrest, Nat.add_sub_cancel' hle] at this
            exact this
          · cases hp
            have hjl : j < len * P.cellsOf e := by
              rw [← k1]
              rcases Nat.lt_or_ge j ((List.range len).flatMap f).length with h | h
              · exact h
              · rw [List.getElem?_eq_none h] at hj; cases hj
            have hpos : 0 < P.cellsOf e := by
              rcases Nat.eq_zero_or_pos (P.cellsOf e) with h0 | h0
              · rw [h0] at hjl; simp at hjl
              · exact h0
            have hi : j / P.cellsOf e < len := by rw [Nat.div_lt_iff_lt_mul hpos]; exact hjl
            have hmod : j % P.cellsOf e < P.cellsOf e := Nat.mod_lt _ hpos
            have hsplit : j / P.cellsOf e * P.cellsOf e + j % P.cellsOf e = j := by rw [Nat.mul_comm]; exact Nat.div_add_mod _ _
            have hv : (f (j / P.cellsOf e))[j % P.cellsOf e]? = some v := by
              rw [← k2 _ hi, List.getElem?_take, if_pos hmod, List.getElem?_drop, hsplit]
              exact hj
            have hcs := (World.cells?_some (hf _ hi)).2.2 (j % P.cellsOf e) hmod
            rw [hv, add_add, hsplit] at hcs
            exact Cell.old hcs
          · rw [k2 i hi]
            obtain ⟨ys, y, h1, h2, h3⟩ := hcell i hi
            have : f i = ys := by have := hf i hi; rw [h1] at this; cases this; rfl
            rw [this]
            refine Ok.of n e ys y h3 (weights_all (ds := elems.map (·.1)) (fun z hz => hw z (by simp [hz])) (j := i) (by rw [List.getElem?_map, h2]; rfl))
      | struct fs =>
        obtain ⟨xs, m, hm, rfl, hl, hlen, hf⟩ := DataW.trod_struct hu h
        cases hm
        refine ⟨hl, fun i f hi => ?_⟩
        have h1 := hf i f hi
        have hi2 : i < xs.length := by
          rw [hlen]
          rcases Nat.lt_or_ge i fs.size with h | h
          · exact h
          · rw [Array.getElem?_eq_none h] at hi; cases hi
        rw [List.getElem?_eq_getElem hi2] at h1
        simp only [DataW.weights, hu] at hw
        exact Ok.of n _ _ _ h1 (weights_each hw (j := i) (by rw [List.getElem?_map, Array.getElem?_toList, hi]; rfl) (by rw [List.getElem?_map, List.getElem?_eq_getElem hi2]; rfl))
      | array m e =>
        obtain ⟨xs, m', hm, rfl, hl, hlen, hf⟩ := DataW.trod_array hu h
        cases hm
        refine ⟨hl, fun i hi => ?_⟩
        have h1 := hf i hi
        have hi2 : i < xs.length := by omega
        rw [List.getElem?_eq_getElem hi2] at h1
        simp only [DataW.weights, hu] at hw
        exact Ok.of n _ _ _ h1 (weights_all hw (j := i) (by rw [List.getElem?_map, List.getElem?_eq_getElem hi2]; rfl))
      | _ => trivial
end Go.Sep
namespace Go.Sep
open Go Go.RowKit
variable {Hd : Type} {enc : TypeId × Value → Hd} {P : Program} {W : World} {n : Nat} {t : TypeId} {cs : List Value}
theorem Ok.int {k : IntKind} (h : Ok P W n t cs) (hu : P.underlying t = some (.int k)) : ∃ z, cs = [.int k z] ∧ loK k ≤ z ∧ z ≤ hiK k := by
  cases n with
  | zero => exact h.elim
  | succ n => unfold Ok at h; rw [hu] at h; exact h
theorem Ok.bool (h : Ok P W n t cs) (hu : P.underlying t = some .bool) : ∃ b, cs = [.bool b] := by
  cases n with
  | zero => exact h.elim
  | succ n => unfold Ok at h; rw [hu] at h; exact h
theorem Ok.str (h : Ok P W n t cs) (hu : P.underlying t = some .string) : ∃ s, cs = [.string s] ∧ s.size ≤ reachBytes := by
  cases n with
  | zero => exact h.elim
  | succ n => unfold Ok at h; rw [hu] at h; exact h
theorem Ok.struct {fs : Array Field} (h : Ok P W n t cs) (hu : P.underlying t = some (.struct fs)) : cs.length = P.cellsOf t ∧ ∃ m, ∀ (i : Nat) (f : Field), fs[i]? = some f → Ok P W m f.type ((cs.drop f.offset).take (P.cellsOf f.type)) := by
  cases n with
  | zero => exact h.elim
  | succ n => unfold Ok at h; rw [hu] at h; exact ⟨h.1, n, h.2⟩
theorem Ok.array {k : Nat} {e : TypeId} (h : Ok P W n t cs) (hu : P.underlying t = some (.array k e)) : cs.length = P.cellsOf t ∧ ∃ m, ∀ i, i < k → Ok P W m e ((cs.drop (i * P.cellsOf e)).take (P.cellsOf e)) := by
  cases n with
  | zero => exact h.elim
  | succ n => unfold Ok at h; rw [hu] at h; exact ⟨h.1, n, h.2⟩
theorem flatMap_drop {α : Type} {enc : α → List Value} {sz : Nat} : ∀ (rs : List α) (xs : List Value), xs.length = rs.length * sz → (∀ (i : Nat) (r : α), rs[i]? = some r → (xs.drop (i * sz)).take sz = enc r) → xs = rs.flatMap enc
  | [], xs, hl, _ => by simpa using hl
  | r :: rs, xs, hl, h => by
    have h0 := h 0 r rfl
    simp only [Nat.zero_mul, List.drop_zero] at h0
    have ih := flatMap_drop rs (xs.drop sz) (by rw [List.length_drop, hl, List.length_cons, Nat.succ_mul, Nat.add_sub_cancel]) (fun i r' hi => by
      have := h (i + 1) r' (by simpa using hi)
      rw [List.drop_drop, Nat.add_comm, ← Nat.succ_mul]; exact this)
    rw [List.flatMap_cons, ← ih, ← h0, List.take_append_drop]
/-- A slice whose elements are told one by one. -/
theorem Ok.rows {α : Type} {e : TypeId} {sz b : Nat} (encv : α → List Value) (G : α → Prop) (h : Ok P W n t cs) (hu : P.underlying t = some (.slice e)) (hsz : P.cellsOf e = sz) (hb : P.bytesOf e = b) (he : ∀ m xs, Ok P W m e xs → ∃ r, xs = encv r ∧ G r) :
    ∃ (sa : Option Addr) (k c : Nat) (rs : List α), cs = [.slice sa k c] ∧ k = rs.length ∧ k ≤ c ∧ c * b ≤ 140737488351232 ∧ (∀ r ∈ rs, G r) ∧ ∀ H, Rd W H sa k c sz (rs.flatMap encv) := by
  subst hsz hb
  cases n with
  | zero => exact h.elim
  | succ n =>
    unfold Ok at h; rw [hu] at h
    obtain ⟨sa, k, c, xs, rfl, hk, hc, hr, hx⟩ := h
    have hlen : xs.length = k * P.cellsOf e := (hr []).len
    have hgo : ∀ j, j ≤ k → ∃ rs : List α, rs.length = j ∧ ∀ (i : Nat) (r : α), rs[i]? = some r → (xs.drop (i * P.cellsOf e)).take (P.cellsOf e) = encv r ∧ G r := by
      intro j
      induction j with
      | zero => exact fun _ => ⟨[], rfl, fun i r hi => by simp at hi⟩
      | succ j ih =>
        intro hj
        obtain ⟨rs, h1, h2⟩ := ih (by omega)
        obtain ⟨r, h3, h4⟩ := he n _ (hx j (by omega))
        refine ⟨rs ++ [r], by simp [h1], fun i r' hi => ?_⟩
        rcases Nat.lt_or_ge i rs.length with hlt | hge
        · rw [List.getElem?_append_left hlt] at hi
          exact h2 i r' hi
        · rw [List.getElem?_append_right hge] at hi
          have hi0 : i - rs.length = 0 := by
            rcases Nat.eq_zero_or_pos (i - rs.length) with h0 | h0
            · exact h0
            · rw [List.getElem?_eq_none (by simp; omega)] at hi; cases hi
          rw [hi0] at hi
          cases hi
          have : i = j := by omega
          rw [this]; exact ⟨h3, h4⟩
    obtain ⟨rs, h1, h2⟩ := hgo k (Nat.le_refl _)
    have hxs : xs = rs.flatMap encv := flatMap_drop rs xs (by rw [h1]; exact hlen) fun i r hi => (h2 i r hi).1
    refine ⟨sa, k, c, rs, rfl, h1.symm, hk, hc, fun r hr' => ?_, fun H => hxs ▸ hr H⟩
    obtain ⟨i, hi⟩ := List.mem_iff_getElem?.1 hr'
    exact (h2 i r hi).2
theorem flat_ints {k : IntKind} : ∀ (es : List Int), es.flatMap (fun z => [Value.int k z]) = es.map (Value.int k)
  | [] => rfl
  | e :: es => by rw [List.flatMap_cons, flat_ints es]; rfl
/-- A slice of whole numbers. -/
theorem Ok.ints {e : TypeId} {k : IntKind} {b : Nat} (h : Ok P W n t cs) (hu : P.underlying t = some (.slice e)) (he : P.underlying e = some (.int k)) (hsz : P.cellsOf e = 1) (hb : P.bytesOf e = b) :
    ∃ (sa : Option Addr) (m c : Nat) (es : List Int), cs = [.slice sa m c] ∧ m = es.length ∧ m ≤ c ∧ c * b ≤ 140737488351232 ∧ (∀ z ∈ es, loK k ≤ z ∧ z ≤ hiK k) ∧ ∀ H, Rd W H sa m c 1 (es.map (Value.int k)) := by
  obtain ⟨sa, m, c, es, h1, h2, h3, h4, h5, h6⟩ := Ok.rows (α := Int) (fun z => [Value.int k z]) (fun z => loK k ≤ z ∧ z ≤ hiK k) h hu hsz hb (fun _ _ hx => hx.int he)
  refine ⟨sa, m, c, es, h1, h2, h3, h4, h5, fun H => ?_⟩
  have := h6 H
  rwa [flat_ints es] at this
/-- What an argument is. -/
theorem Ok.arg {v : Value} {d : DataW Hd} {ps : List MemPlace} {ts : List TypeId} {ds : List (DataW Hd)} (j : Nat) (h : DataW.Trod enc P W 0 (fun _ => true) true t v d ps)
    (hsz : (DataW.weightsEach P ts ds).all (· ≤ reachBytes) = true) (hj : ts[j]? = some t) (hd : ds[j]? = some d) : ∃ n, Ok P W n t v.cells.toList := by
  obtain ⟨fuel, hf⟩ := h
  refine ⟨fuel, Ok.of fuel t _ _ hf (weights_each (fun x hx => ?_) hj hd)⟩
  have := List.all_eq_true.1 hsz x hx
  simpa using this
end Go.Sep
namespace Go.Sep
open Go
theorem Ok.field {P : Program} {W : World} {m : Nat} {fs : Array Field} {cs cs' : List Value} (g : ∀ (i : Nat) (f : Field), fs[i]? = some f → Ok P W m f.type ((cs.drop f.offset).take (P.cellsOf f.type))) {i : Nat} {f : Field} {t o s : Nat} (hf : fs[i]? = some f) (ht : f.type = t) (ho : f.offset = o) (hc : P.cellsOf t = s) (hx : (cs.drop o).take s = cs') : Ok P W m t cs' := by
  have := g i f hf
  rw [ht, ho, hc, hx] at this
  exact this
theorem len1 {l : List Value} (h : l.length = 1) : ∃ x0, l = [x0] := by
  match l, h with
  | [x0], _ => exact ⟨x0, rfl⟩
theorem len2 {l : List Value} (h : l.length = 2) : ∃ x0 x1, l = [x0, x1] := by
  match l, h with
  | [x0, x1], _ => exact ⟨x0, x1, rfl⟩
theorem len3 {l : List Value} (h : l.length = 3) : ∃ x0 x1 x2, l = [x0, x1, x2] := by
  match l, h with
  | [x0, x1, x2], _ => exact ⟨x0, x1, x2, rfl⟩
theorem len4 {l : List Value} (h : l.length = 4) : ∃ x0 x1 x2 x3, l = [x0, x1, x2, x3] := by
  match l, h with
  | [x0, x1, x2, x3], _ => exact ⟨x0, x1, x2, x3, rfl⟩
theorem len5 {l : List Value} (h : l.length = 5) : ∃ x0 x1 x2 x3 x4, l = [x0, x1, x2, x3, x4] := by
  match l, h with
  | [x0, x1, x2, x3, x4], _ => exact ⟨x0, x1, x2, x3, x4, rfl⟩
theorem len6 {l : List Value} (h : l.length = 6) : ∃ x0 x1 x2 x3 x4 x5, l = [x0, x1, x2, x3, x4, x5] := by
  match l, h with
  | [x0, x1, x2, x3, x4, x5], _ => exact ⟨x0, x1, x2, x3, x4, x5, rfl⟩
theorem len7 {l : List Value} (h : l.length = 7) : ∃ x0 x1 x2 x3 x4 x5 x6, l = [x0, x1, x2, x3, x4, x5, x6] := by
  match l, h with
  | [x0, x1, x2, x3, x4, x5, x6], _ => exact ⟨x0, x1, x2, x3, x4, x5, x6, rfl⟩
theorem len8 {l : List Value} (h : l.length = 8) : ∃ x0 x1 x2 x3 x4 x5 x6 x7, l = [x0, x1, x2, x3, x4, x5, x6, x7] := by
  match l, h with
  | [x0, x1, x2, x3, x4, x5, x6, x7], _ => exact ⟨x0, x1, x2, x3, x4, x5, x6, x7, rfl⟩
theorem len9 {l : List Value} (h : l.length = 9) : ∃ x0 x1 x2 x3 x4 x5 x6 x7 x8, l = [x0, x1, x2, x3, x4, x5, x6, x7, x8] := by
  match l, h with
  | [x0, x1, x2, x3, x4, x5, x6, x7, x8], _ => exact ⟨x0, x1, x2, x3, x4, x5, x6, x7, x8, rfl⟩
theorem len10 {l : List Value} (h : l.length = 10) : ∃ x0 x1 x2 x3 x4 x5 x6 x7 x8 x9, l = [x0, x1, x2, x3, x4, x5, x6, x7, x8, x9] := by
  match l, h with
  | [x0, x1, x2, x3, x4, x5, x6, x7, x8, x9], _ => exact ⟨x0, x1, x2, x3, x4, x5, x6, x7, x8, x9, rfl⟩
theorem len11 {l : List Value} (h : l.length = 11) : ∃ x0 x1 x2 x3 x4 x5 x6 x7 x8 x9 x10, l = [x0, x1, x2, x3, x4, x5, x6, x7, x8, x9, x10] := by
  match l, h with
  | [x0, x1, x2, x3, x4, x5, x6, x7, x8, x9, x10], _ => exact ⟨x0, x1, x2, x3, x4, x5, x6, x7, x8, x9, x10, rfl⟩
theorem len12 {l : List Value} (h : l.length = 12) : ∃ x0 x1 x2 x3 x4 x5 x6 x7 x8 x9 x10 x11, l = [x0, x1, x2, x3, x4, x5, x6, x7, x8, x9, x10, x11] := by
  match l, h with
  | [x0, x1, x2, x3, x4, x5, x6, x7, x8, x9, x10, x11], _ => exact ⟨x0, x1, x2, x3, x4, x5, x6, x7, x8, x9, x10, x11, rfl⟩
theorem len13 {l : List Value} (h : l.length = 13) : ∃ x0 x1 x2 x3 x4 x5 x6 x7 x8 x9 x10 x11 x12, l = [x0, x1, x2, x3, x4, x5, x6, x7, x8, x9, x10, x11, x12] := by
  match l, h with
  | [x0, x1, x2, x3, x4, x5, x6, x7, x8, x9, x10, x11, x12], _ => exact ⟨x0, x1, x2, x3, x4, x5, x6, x7, x8, x9, x10, x11, x12, rfl⟩
theorem len14 {l : List Value} (h : l.length = 14) : ∃ x0 x1 x2 x3 x4 x5 x6 x7 x8 x9 x10 x11 x12 x13, l = [x0, x1, x2, x3, x4, x5, x6, x7, x8, x9, x10, x11, x12, x13] := by
  match l, h with
  | [x0, x1, x2, x3, x4, x5, x6, x7, x8, x9, x10, x11, x12, x13], _ => exact ⟨x0, x1, x2, x3, x4, x5, x6, x7, x8, x9, x10, x11, x12, x13, rfl⟩
theorem len15 {l : List Value} (h : l.length = 15) : ∃ x0 x1 x2 x3 x4 x5 x6 x7 x8 x9 x10 x11 x12 x13 x14, l = [x0, x1, x2, x3, x4, x5, x6, x7, x8, x9, x10, x11, x12, x13, x14] := by
  match l, h with
  | [x0, x1, x2, x3, x4, x5, x6, x7, x8, x9, x10, x11, x12, x13, x14], _ => exact ⟨x0, x1, x2, x3, x4, x5, x6, x7, x8, x9, x10, x11, x12, x13, x14, rfl⟩
theorem len16 {l : List Value} (h : l.length = 16) : ∃ x0 x1 x2 x3 x4 x5 x6 x7 x8 x9 x10 x11 x12 x13 x14 x15, l = [x0, x1, x2, x3, x4, x5, x6, x7, x8, x9, x10, x11, x12, x13, x14, x15] := by
  match l, h with
  | [x0, x1, x2, x3, x4, x5, x6, x7, x8, x9, x10, x11, x12, x13, x14, x15], _ => exact ⟨x0, x1, x2, x3, x4, x5, x6, x7, x8, x9, x10, x11, x12, x13, x14, x15, rfl⟩
theorem len17 {l : List Value} (h : l.length = 17) : ∃ x0 x1 x2 x3 x4 x5 x6 x7 x8 x9 x10 x11 x12 x13 x14 x15 x16, l = [x0, x1, x2, x3, x4, x5, x6, x7, x8, x9, x10, x11, x12, x13, x14, x15, x16] := by
  match l, h with
  | [x0, x1, x2, x3, x4, x5, x6, x7, x8, x9, x10, x11, x12, x13, x14, x15, x16], _ => exact ⟨x0, x1, x2, x3, x4, x5, x6, x7, x8, x9, x10, x11, x12, x13, x14, x15, x16, rfl⟩
theorem len18 {l : List Value} (h : l.length = 18) : ∃ x0 x1 x2 x3 x4 x5 x6 x7 x8 x9 x10 x11 x12 x13 x14 x15 x16 x17, l = [x0, x1, x2, x3, x4, x5, x6, x7, x8, x9, x10, x11, x12, x13, x14, x15, x16, x17] := by
  match l, h with
  | [x0, x1, x2, x3, x4, x5, x6, x7, x8, x9, x10, x11, x12, x13, x14, x15, x16, x17], _ => exact ⟨x0, x1, x2, x3, x4, x5, x6, x7, x8, x9, x10, x11, x12, x13, x14, x15, x16, x17, rfl⟩
theorem len19 {l : List Value} (h : l.length = 19) : ∃ x0 x1 x2 x3 x4 x5 x6 x7 x8 x9 x10 x11 x12 x13 x14 x15 x16 x17 x18, l = [x0, x1, x2, x3, x4, x5, x6, x7, x8, x9, x10, x11, x12, x13, x14, x15, x16, x17, x18] := by
  match l, h with
  | [x0, x1, x2, x3, x4, x5, x6, x7, x8, x9, x10, x11, x12, x13, x14, x15, x16, x17, x18], _ => exact ⟨x0, x1, x2, x3, x4, x5, x6, x7, x8, x9, x10, x11, x12, x13, x14, x15, x16, x17, x18, rfl⟩
theorem len20 {l : List Value} (h : l.length = 20) : ∃ x0 x1 x2 x3 x4 x5 x6 x7 x8 x9 x10 x11 x12 x13 x14 x15 x16 x17 x18 x19, l = [x0, x1, x2, x3, x4, x5, x6, x7, x8, x9, x10, x11, x12, x13, x14, x15, x16, x17, x18, x19] := by
  match l, h with
  | [x0, x1, x2, x3, x4, x5, x6, x7, x8, x9, x10, x11, x12, x13, x14, x15, x16, x17, x18, x19], _ => exact ⟨x0, x1, x2, x3, x4, x5, x6, x7, x8, x9, x10, x11, x12, x13, x14, x15, x16, x17, x18, x19, rfl⟩
end Go.Sep
namespace Go.Sep
open Go
variable {P : Program} {W : World} {n : Nat} {t : TypeId}
theorem Ok.rows1 {sa : Option Addr} {k c : Nat} {α : Type} {e : TypeId} {sz b : Nat} (encv : α → List Value) (G : α → Prop) (h : Ok P W n t [.slice sa k c]) (hu : P.underlying t = some (.slice e)) (hsz : P.cellsOf e = sz) (hb : P.bytesOf e = b) (he : ∀ m xs, Ok P W m e xs → ∃ r, xs = encv r ∧ G r) :
    ∃ (rs : List α), k = rs.length ∧ k ≤ c ∧ c * b ≤ 140737488351232 ∧ (∀ r ∈ rs, G r) ∧ ∀ H, Rd W H sa k c sz (rs.flatMap encv) := by
  obtain ⟨sa', k', c', rs, q, h1⟩ := Ok.rows encv G h hu hsz hb he
  cases q
  exact ⟨rs, h1⟩
theorem Ok.ints1 {sa : Option Addr} {m c : Nat} {e : TypeId} {k : IntKind} {b : Nat} (h : Ok P W n t [.slice sa m c]) (hu : P.underlying t = some (.slice e)) (he : P.underlying e = some (.int k)) (hsz : P.cellsOf e = 1) (hb : P.bytesOf e = b) :
    ∃ (es : List Int), m = es.length ∧ m ≤ c ∧ c * b ≤ 140737488351232 ∧ (∀ z ∈ es, loK k ≤ z ∧ z ≤ hiK k) ∧ ∀ H, Rd W H sa m c 1 (es.map (Value.int k)) := by
  obtain ⟨sa', k', c', rs, q, h1⟩ := Ok.ints h hu he hsz hb
  cases q
  exact ⟨rs, h1⟩
theorem one_inj {x y : Value} (h : [x] = [y]) : x = y := by cases h; rfl
end Go.Sep
