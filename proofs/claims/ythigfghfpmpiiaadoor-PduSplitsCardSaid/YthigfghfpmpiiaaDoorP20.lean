/- Messages gathered in containers: what a packer answers, by definition. -/
import Derived.Test.YthigfghfpmpiiaaDoorP19
import Derived.Test.YthigfghfpmpiiaaDoorS28
import Derived.Test.YthigfghfpmpiiaaDoorS21
set_option linter.unusedVariables false
set_option linter.unusedSimpArgs false
namespace Go.Sep
open Go
/-- A message: who it is of, and its data. -/
abbrev Mg := Int × List Int
def mgP (p : Pd) : Mg := (p.id, p.data)
def mg (l : List Pd) : List Mg := l.map mgP
def wk (m : Mg) : Nat := wholeN m.2.length
def bytesM (m : Mg) : List Int := hdP m.1 m.2.length ++ m.2 ++ List.replicate (padN m.2.length) 0
def joinB (ms : List Mg) : List Int := ms.flatMap bytesM
def usedM : List Mg → Nat
  | [] => 0
  | m :: ms => wk m + usedM ms
theorem bytesM_len (m : Mg) : (bytesM m).length = wk m := by simp [bytesM, hdP, wk, wholeN]; omega
theorem bytesM_mg (p : Pd) : bytesP p = bytesM (mgP p) := rfl
theorem wk_ge (m : Mg) : 8 + m.2.length ≤ wk m := by unfold wk wholeN; omega
theorem joinB_len (ms : List Mg) : (joinB ms).length = usedM ms := by
  induction ms with
  | nil => rfl
  | cons m ms ih => simp only [joinB, List.flatMap_cons, List.length_append, usedM, bytesM_len] at *; omega
theorem usedM_app (a b : List Mg) : usedM (a ++ b) = usedM a + usedM b := by
  induction a with
  | nil => simp [usedM]
  | cons m a ih => simp only [List.cons_append, usedM, ih]; omega
theorem usedM_one (m : Mg) : usedM [m] = wk m := by simp [usedM]
theorem usedM_snoc (a : List Mg) (m : Mg) : usedM (a ++ [m]) = usedM a + wk m := by rw [usedM_app, usedM_one]
theorem usedM_len (ms : List Mg) : 8 * ms.length ≤ usedM ms := by
  induction ms with
  | nil => simp [usedM]
  | cons m ms ih => have := wk_ge m; simp only [List.length_cons, usedM]; omega
theorem mg_len (l : List Pd) : (mg l).length = l.length := by simp [mg]
theorem mg_app (a b : List Pd) : mg (a ++ b) = mg a ++ mg b := by simp [mg]
theorem mg_nil {l : List Pd} : mg l = [] ↔ l = [] := by simp [mg]
theorem mg_take (l : List Pd) (k : Nat) : mg (l.take k) = (mg l).take k := by simp [mg, List.map_take]
theorem sizeP_mg {p : Pd} (h : wk (mgP p) ≤ 2048) : sizeP p = ((wk (mgP p) : Int), 0) := by
  have := wk_ge (mgP p)
  have e : (mgP p).2.length = p.data.length := rfl
  exact sizeP_ok (by omega) h
theorem sizeP_gt {p : Pd} (h : 2048 < wk (mgP p)) : sizeP p = (0, 2) := sizeP_bad (.inr h)
theorem joinS_mg : ∀ (l : List Pd) (out : List Int), out.length + usedM (mg l) ≤ 2048 → joinS l out = (out ++ joinB (mg l), 0)
  | [], out, _ => by simp [joinS, mg, joinB]
  | p :: l, out, h => by
    have h2 : usedM (mg (p :: l)) = wk (mgP p) + usedM (mg l) := rfl
    rw [joinS, if_pos ⟨by rw [sizeP_mg (by omega)], by have : wk (mgP p) = wholeN p.data.length := rfl; omega⟩]
    rw [joinS_mg l _ (by rw [List.length_append, bytesP_len]; have : wk (mgP p) = wholeN p.data.length := rfl; omega)]
    simp [joinB, mg, bytesM_mg, List.append_assoc]
theorem joinV_mg {l : List Pd} (h0 : 0 < l.length) (h : usedM (mg l) ≤ 2048) : joinV l = (joinB (mg l), 0) := by
  rw [joinV_cons (by omega), joinS_mg l [] (by simpa using h)]; rfl

/-- What comes of one message more: the containers, and who waits. -/
def addF (room : Nat) (ms : List Mg) (m : Mg) : List (List Int) × List Mg := if room < usedM ms + wk m then ([joinB ms], []) else ([], ms)
def addO (room : Nat) (ms : List Mg) (m : Mg) : List (List Int) := (addF room ms m).1 ++ (if room < usedM ((addF room ms m).2 ++ [m]) + 8 then [joinB ((addF room ms m).2 ++ [m])] else [])
def addL (room : Nat) (ms : List Mg) (m : Mg) : List Mg := if room < usedM ((addF room ms m).2 ++ [m]) + 8 then [] else (addF room ms m).2 ++ [m]
def ageO (outs : List (List Int)) (age : Nat) : Nat := if outs = [] then age else 0
def flushO (ms : List Mg) : List (List Int) := if ms = [] then [] else [joinB ms]
def tickO (wait : Nat) (ms : List Mg) (age : Nat) : List (List Int) := if ms = [] then [] else if age + 1 < wait then [] else [joinB ms]
def tickL (wait : Nat) (ms : List Mg) (age : Nat) : List Mg := if ms = [] then ms else if age + 1 < wait then ms else []
def tickA (wait : Nat) (ms : List Mg) (age : Nat) : Nat := if ms = [] then age else if age + 1 < wait then age + 1 else 0
theorem addF_gt {room : Nat} {ms : List Mg} {m : Mg} (h : room < usedM ms + wk m) : addF room ms m = ([joinB ms], []) := if_pos h
theorem addF_le {room : Nat} {ms : List Mg} {m : Mg} (h : usedM ms + wk m ≤ room) : addF room ms m = ([], ms) := if_neg (by omega)
theorem addF_used {room : Nat} {ms : List Mg} {m : Mg} (h : wk m ≤ room) : usedM ((addF room ms m).2 ++ [m]) ≤ room := by
  rw [usedM_snoc]
  unfold addF
  split
  · simp only [usedM]; omega
  · simp only []; omega
/-- Who waits leaves eight bytes at least. -/
theorem addL_used {room : Nat} {ms : List Mg} {m : Mg} (h : 8 ≤ room) : usedM (addL room ms m) + 8 ≤ room := by
  unfold addL
  split
  · simp only [usedM]; omega
  · omega
def outD (os : List Sl) : List (List Int) := os.map (·.d)
theorem outD_len (os : List Sl) : (outD os).length = os.length := by simp [outD]
theorem addO_len (room : Nat) (ms : List Mg) (m : Mg) : (addO room ms m).length ≤ 2 := by
  unfold addO addF
  split <;> split <;> simp
/-- Rows of slices of bytes. -/
def SlC (q : Sl) : List Value := [SlV q]
instance : RowE SlC 1 := ⟨fun _ => rfl, fun r u hu => by
  simp only [SlC, List.mem_cons, List.mem_nil_iff, or_false] at hu
  rcases hu with rfl; rfl⟩
theorem sl_map : ∀ L : List Sl, L.flatMap SlC = L.map SlV
  | [] => rfl
  | q :: L => by
    simp only [List.flatMap_cons, SlC, List.map_cons, List.singleton_append]
    congr 1
    exact sl_map L
theorem slc_get {L : List Sl} {k : Nat} (hk : k < L.length) : (L.flatMap SlC)[k]? = some (SlV (L.getD k default)) := by
  rw [sl_map]; exact slv_get hk
theorem pd_mem {w0 : World} {H : List Chunk} {l : List Pd} (h : ∀ y ∈ l, PdOk w0 H y) (k : Nat) : PdOk w0 H (l.getD k default) := by
  rw [List.getD_eq_getElem?_getD]
  by_cases hk : k < l.length
  · rw [List.getElem?_eq_getElem hk]; exact h _ (List.getElem_mem hk)
  · rw [List.getElem?_eq_none (by omega)]; exact PdOk.dflt
theorem sl_mem {w0 : World} {H : List Chunk} {l : List Sl} (h : ∀ y ∈ l, SlOk w0 H y) (k : Nat) : SlOk w0 H (l.getD k default) := by
  rw [List.getD_eq_getElem?_getD]
  by_cases hk : k < l.length
  · rw [List.getElem?_eq_getElem hk]; exact h _ (List.getElem_mem hk)
  · rw [List.getElem?_eq_none (by omega)]; exact SlOk.dflt
theorem PdOk.sub {w0 : World} {H T : List Chunk} {p : Pd} (h : PdOk w0 T p) (hs : SubL H T) : PdOk w0 H p := ⟨h.id, h.len, h.max, h.byte, hs.rd h.rd⟩
theorem SlOk.sub {w0 : World} {H T : List Chunk} {p : Sl} (h : SlOk w0 T p) (hs : SubL H T) : SlOk w0 H p := ⟨h.len, h.max, h.byte, hs.rd h.rd⟩
theorem byte_iff {es : List Int} : Byte es ↔ ∀ x ∈ es, 0 ≤ x ∧ x ≤ 255 := Iff.rfl
theorem bytesP_byte {w0 : World} {H : List Chunk} {p : Pd} (h : PdOk w0 H p) (h2 : wk (mgP p) ≤ 2048) : Byte (bytesM (mgP p)) := by
  have h3 := wk_ge (mgP p)
  have e1 : (mgP p).1 = p.id := rfl
  have e2 : (mgP p).2 = p.data := rfl
  have h4 : 8 + p.data.length ≤ wk (mgP p) := h3
  have hid := h.id
  have hw : ∀ n : Int, 0 ≤ IntKind.u8.wrap n ∧ IntKind.u8.wrap n ≤ 255 := fun n => by rw [IntKind.wrap_u8]; omega
  refine byte_iff.2 fun x hx => ?_
  unfold bytesM hdP at hx
  rw [e1, e2] at hx
  simp only [List.mem_append, List.mem_cons, List.mem_replicate, List.not_mem_nil, or_false] at hx
  have p24 : (2 : Int) ^ 24 = 16777216 := by decide
  have p8 : (2 : Int) ^ 8 = 256 := by decide
  rw [p24, p8] at hx
  rcases hx with (hx | hx) | hx
  · rcases hx with rfl | rfl | rfl | rfl | rfl | rfl | rfl | rfl
    · constructor <;> omega
    · exact hw _
    · exact hw _
    · exact hw _
    · constructor <;> omega
    · exact hw _
    · omega
    · omega
  · exact byte_iff.1 h.byte x hx
  · omega
theorem usedM_mem : ∀ (ms : List Mg) (m : Mg), m ∈ ms → wk m ≤ usedM ms
  | a :: ms, m, h => by
    rcases List.mem_cons.1 h with rfl | h
    · simp only [usedM]; omega
    · have := usedM_mem ms m h; simp only [usedM]; omega
theorem joinB_byte {w0 : World} {H : List Chunk} {l : List Pd} (h : ∀ y ∈ l, PdOk w0 H y) (hu : usedM (mg l) ≤ 2048) : Byte (joinB (mg l)) := by
  refine byte_iff.2 fun x hx => ?_
  obtain ⟨m, hm, hx⟩ := List.mem_flatMap.1 hx
  obtain ⟨p, hp, rfl⟩ := List.mem_map.1 hm
  exact byte_iff.1 (bytesP_byte (h p hp) (Nat.le_trans (usedM_mem _ _ hm) hu)) x hx
end Go.Sep
namespace Go.Sep
section
variable {room : Nat} {ms : List Mg} {m : Mg}
theorem flushO_ne {ms : List Mg} (h : ms ≠ []) : flushO ms = [joinB ms] := if_neg h
theorem add_ne (h : room < usedM ms + wk m) (hm : wk m ≤ room) : ms ≠ [] := by
  rintro rfl; simp only [usedM] at h; omega
theorem addAB (h : room < usedM ms + wk m) (hm : wk m ≤ room) (h2 : room < wk m + 8) : addO room ms m = flushO ms ++ flushO [m] ∧ addL room ms m = [] := by
  rw [addO, addL, addF_gt h, flushO_ne (add_ne h hm), flushO_ne (by simp)]
  simp only [List.nil_append, usedM_one]
  rw [if_pos h2, if_pos h2]; exact ⟨rfl, rfl⟩
theorem addAn (h : room < usedM ms + wk m) (hm : wk m ≤ room) (h2 : wk m + 8 ≤ room) : addO room ms m = flushO ms ∧ addL room ms m = [m] := by
  rw [addO, addL, addF_gt h, flushO_ne (add_ne h hm)]
  simp only [List.nil_append, usedM_one]
  rw [if_neg (by omega), if_neg (by omega)]; simp
theorem addNB (h : usedM ms + wk m ≤ room) (h2 : room < usedM ms + wk m + 8) : addO room ms m = flushO (ms ++ [m]) ∧ addL room ms m = [] := by
  rw [addO, addL, addF_le h, flushO_ne (by simp)]
  simp only [List.nil_append, usedM_snoc]
  rw [if_pos h2, if_pos h2]; exact ⟨rfl, rfl⟩
theorem addNn (h : usedM ms + wk m + 8 ≤ room) : addO room ms m = [] ∧ addL room ms m = ms ++ [m] := by
  rw [addO, addL, addF_le (by omega)]
  simp only [List.nil_append, usedM_snoc]
  rw [if_neg (by omega), if_neg (by omega)]; exact ⟨rfl, rfl⟩
theorem ageO_ne {o : List (List Int)} (h : 0 < o.length) (age : Nat) : ageO o age = 0 := if_neg (by rintro rfl; cases h)
end
end Go.Sep
namespace Go.Sep
theorem flushO_len (ms : List Mg) : (flushO ms).length ≤ 1 := by unfold flushO; split <;> simp
end Go.Sep
namespace Go.Sep
theorem mg_take_succ {l : List Pd} {k : Nat} (hk : k < l.length) : (mg l).take (k + 1) = (mg l).take k ++ [mgP (l.getD k default)] := by
  have e : l[k] = l.getD k default := by rw [List.getD_eq_getElem?_getD, List.getElem?_eq_getElem hk]; rfl
  rw [List.take_succ_eq_append_getElem (by rw [mg_len]; exact hk)]
  simp only [mg, List.getElem_map]
  rw [e]
theorem mg_snoc {l : List Pd} {k : Nat} (hk : k < l.length) : mg (l.take (k + 1)) = mg (l.take k) ++ [mgP (l.getD k default)] := by
  rw [mg_take, mg_take_succ hk, mg_take]
theorem mg_step {ps qs : List Pd} {k : Nat} (h1 : k < ps.length) (h2 : k < qs.length) (h : mg (ps.take k) = mg (qs.take k)) (he : (ps.getD k default).id = (qs.getD k default).id ∧ (ps.getD k default).data = (qs.getD k default).data) : mg (ps.take (k + 1)) = mg (qs.take (k + 1)) := by
  rw [mg_snoc h1, mg_snoc h2, h]
  simp only [mgP, he.1, he.2]
theorem mg_len_ne {ps qs : List Pd} (h : ps.length ≠ qs.length) : decide (mg ps = mg qs) = false := by
  refine decide_eq_false fun e => h ?_
  have := congrArg List.length e
  rwa [mg_len, mg_len] at this
theorem mg_ne {ps qs : List Pd} {k : Nat} (h1 : k < ps.length) (h2 : k < qs.length) (h : ¬ ((ps.getD k default).id = (qs.getD k default).id ∧ (ps.getD k default).data = (qs.getD k default).data)) : decide (mg ps = mg qs) = false := by
  refine decide_eq_false fun e => h ?_
  have e1 : (mg ps).take (k + 1) = (mg qs).take (k + 1) := by rw [e]
  have e2 : (mg ps).take k = (mg qs).take k := by rw [e]
  rw [mg_take_succ h1, mg_take_succ h2, e2] at e1
  have := List.append_cancel_left e1
  simp only [mgP, List.cons.injEq, Prod.mk.injEq, and_true] at this
  exact this
theorem mg_end {ps qs : List Pd} {k : Nat} (h1 : ps.length ≤ k) (h2 : qs.length ≤ k) (h : mg (ps.take k) = mg (qs.take k)) : decide (mg ps = mg qs) = true := by
  rw [List.take_of_length_le h1, List.take_of_length_le h2] at h
  exact decide_eq_true h
theorem outD_snoc {l : List Sl} {k : Nat} (hk : k < l.length) : outD (l.take (k + 1)) = outD (l.take k) ++ [(l.getD k default).d] := by
  have e : l[k] = l.getD k default := by rw [List.getD_eq_getElem?_getD, List.getElem?_eq_getElem hk]; rfl
  rw [List.take_succ_eq_append_getElem hk, outD, List.map_append, e]; rfl
theorem outD_step {ps qs : List Sl} {k : Nat} (h1 : k < ps.length) (h2 : k < qs.length) (h : outD (ps.take k) = outD (qs.take k)) (he : (ps.getD k default).d = (qs.getD k default).d) : outD (ps.take (k + 1)) = outD (qs.take (k + 1)) := by
  rw [outD_snoc h1, outD_snoc h2, h, he]
theorem outD_len_ne {ps qs : List Sl} (h : ps.length ≠ qs.length) : decide (outD ps = outD qs) = false := by
  refine decide_eq_false fun e => h ?_
  have := congrArg List.length e
  rwa [outD_len, outD_len] at this
theorem outD_ne {ps qs : List Sl} {k : Nat} (h1 : k < ps.length) (h2 : k < qs.length) (h : ¬ (ps.getD k default).d = (qs.getD k default).d) : decide (outD ps = outD qs) = false := by
  refine decide_eq_false fun e => h ?_
  have e1 : outD (ps.take (k + 1)) = outD (qs.take (k + 1)) := by simp only [outD, List.map_take] at *; rw [e]
  have e2 : outD (ps.take k) = outD (qs.take k) := by simp only [outD, List.map_take] at *; rw [e]
  rw [outD_snoc h1, outD_snoc h2, e2] at e1
  have := List.append_cancel_left e1
  simpa using this
theorem outD_end {ps qs : List Sl} {k : Nat} (h1 : ps.length ≤ k) (h2 : qs.length ≤ k) (h : outD (ps.take k) = outD (qs.take k)) : decide (outD ps = outD qs) = true := by
  rw [List.take_of_length_le h1, List.take_of_length_le h2] at h
  exact decide_eq_true h
end Go.Sep
namespace Go.Sep
theorem usedM_take {l : List Pd} {k : Nat} (hk : k < l.length) : usedM (mg (l.take (k + 1))) = usedM (mg (l.take k)) + wk (mgP (l.getD k default)) := by
  rw [mg_snoc hk, usedM_snoc]
theorem wk_getD {l : List Pd} {k : Nat} (hk : k < l.length) : wk (mgP (l.getD k default)) ≤ usedM (mg l) := by
  have e : l[k] = l.getD k default := by rw [List.getD_eq_getElem?_getD, List.getElem?_eq_getElem hk]; rfl
  rw [← e]
  exact usedM_mem _ _ (List.mem_map.2 ⟨_, List.getElem_mem hk, rfl⟩)
theorem usedM_take_le (l : List Pd) (k : Nat) : usedM (mg (l.take k)) ≤ usedM (mg l) := by
  have e : mg l = mg (l.take k) ++ mg (l.drop k) := by rw [← mg_app, List.take_append_drop]
  rw [e, usedM_app]; omega
theorem Rd.nilPd {w0 : World} {H : List Chunk} {c : Nat} : Rd w0 H Option.none 0 c 2 [] := ⟨rfl, Nat.zero_le _, fun h => absurd h (by simp), fun p hp => by cases hp⟩
end Go.Sep
namespace Go.Sep
theorem flush_on {on : Nat} {os : List Sl} {ms : List Mg} (h : on = os.length) (h2 : outD os = flushO ms) : on ≤ 1 := by
  have := flushO_len ms
  rw [← h2, outD_len] at this
  omega
end Go.Sep
namespace Go.Sep
theorem outD_app (a b : List Sl) : outD (a ++ b) = outD a ++ outD b := by simp [outD]
end Go.Sep
namespace Go.Sep
theorem mg_none {M : List Pd} {P : Pd → Prop} (h : mg M = []) : ∀ y ∈ M, P y := by
  rw [mg_nil.1 h]; intro y hy; cases hy
end Go.Sep
