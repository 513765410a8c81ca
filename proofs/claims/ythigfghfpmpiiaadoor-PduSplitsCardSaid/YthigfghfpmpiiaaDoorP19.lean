/- PDUs in containers. -/
import Derived.Test.YthigfghfpmpiiaaDoorS18
set_option linter.unusedVariables false
set_option linter.unusedSimpArgs false
namespace Go.Sep
open Go
structure Pd where
  id : Int
  data : List Int
  a : Option Addr
  n : Nat
  c : Nat
instance : Inhabited Pd := ⟨⟨0, [], none, 0, 0⟩⟩
abbrev PdA (p : Pd) : Value := .agg #[.int .u32 p.id, .slice p.a p.n p.c]
def PdC (p : Pd) : List Value := [.int .u32 p.id, .slice p.a p.n p.c]
instance : RowE PdC 2 := ⟨fun _ => rfl, fun r u hu => by
  simp only [PdC, List.mem_cons, List.mem_nil_iff, or_false] at hu
  rcases hu with rfl | rfl <;> rfl⟩
structure PdOk (w0 : World) (H : List Chunk) (p : Pd) : Prop where
  id : 0 ≤ p.id ∧ p.id ≤ 4294967295
  len : p.n = p.data.length
  max : p.n ≤ 140737488351232
  byte : Byte p.data
  rd : Rd w0 H p.a p.n p.c 1 (p.data.map (.int .u8))
theorem PdOk.dflt {w0 : World} {H : List Chunk} : PdOk w0 H default := ⟨by decide, rfl, by decide, Byte.nil, Rd.nilS⟩
theorem PdOk.cons {w0 : World} {H : List Chunk} {p : Pd} {x : Chunk} (h : PdOk w0 H p) : PdOk w0 (x :: H) p := ⟨h.id, h.len, h.max, h.byte, h.rd.cons⟩
theorem PdOk.app {w0 : World} {G H : List Chunk} {p : Pd} (h : PdOk w0 H p) : PdOk w0 (G ++ H) p := ⟨h.id, h.len, h.max, h.byte, h.rd.app⟩
def padN (L : Nat) : Nat := (4 - L % 4) % 4
def wholeN (L : Nat) : Nat := 8 + L + padN L
theorem whole_eq (L : Nat) : ((8 + (L : Int) + 4 - 1) / 4 * 4) = (wholeN L : Int) := by unfold wholeN padN; omega
def hdP (id : Int) (L : Nat) : List Int := [id / 2 ^ 24, IntKind.u8.wrap (id / 2 ^ 16), IntKind.u8.wrap (id / 2 ^ 8), IntKind.u8.wrap id, (L : Int) / 2 ^ 8, IntKind.u8.wrap (L : Int), 0, 0]
def bytesP (p : Pd) : List Int := hdP p.id p.data.length ++ p.data ++ List.replicate (padN p.data.length) 0
theorem bytesP_len (p : Pd) : (bytesP p).length = wholeN p.data.length := by simp [bytesP, hdP, wholeN]; omega
def sizeP (p : Pd) : Int × Int := if 2048 < p.data.length ∨ 2048 < wholeN p.data.length then (0, 2) else (wholeN p.data.length, 0)
theorem sizeP_bad {p : Pd} (h : 2048 < p.data.length ∨ 2048 < wholeN p.data.length) : sizeP p = (0, 2) := if_pos h
theorem sizeP_ok {p : Pd} (h1 : p.data.length ≤ 2048) (h2 : wholeN p.data.length ≤ 2048) : sizeP p = ((wholeN p.data.length : Int), 0) := if_neg (by omega)
theorem sizeP_0 {p : Pd} (h : (sizeP p).2 = 0) : p.data.length ≤ 2048 ∧ wholeN p.data.length ≤ 2048 ∧ (sizeP p).1 = wholeN p.data.length := by
  unfold sizeP at *
  split at h
  · cases h
  · rename_i g; rw [if_neg g]; exact ⟨by omega, by omega, rfl⟩
theorem sizeP_or (p : Pd) : (sizeP p).2 = 0 ∨ (sizeP p).2 = 2 := by unfold sizeP; split <;> simp
def joinS : List Pd → List Int → List Int × Int
  | [], out => (out, 0)
  | p :: r, out => if (sizeP p).2 = 0 ∧ out.length + wholeN p.data.length ≤ 2048 then joinS r (out ++ bytesP p) else ([], 2)
def joinV (ps : List Pd) : List Int × Int := if ps = [] then ([], 9) else joinS ps []
theorem drop_dflt {α : Type} [Inhabited α] {rs : List α} {k : Nat} (h : k < rs.length) : rs.drop k = rs.getD k default :: rs.drop (k + 1) := by
  rw [List.drop_eq_getElem_cons h, List.getD_eq_getElem?_getD, List.getElem?_eq_getElem h]
  rfl
theorem join_bad {ps : List Pd} {k : Nat} {out : List Int} (hk : k < ps.length) (h : ¬ (sizeP (ps.getD k default)).2 = 0 ∨ 2048 < (out.length : Int) + (sizeP (ps.getD k default)).1) : joinS (ps.drop k) out = ([], 2) := by
  rw [drop_dflt hk, joinS, if_neg ?_]
  rintro ⟨h1, h2⟩
  have := (sizeP_0 h1).2.2
  omega
theorem join_step {ps : List Pd} {k : Nat} {out : List Int} (hk : k < ps.length) (h : (sizeP (ps.getD k default)).2 = 0) (h2 : out.length + wholeN (ps.getD k default).data.length ≤ 2048) : joinS (ps.drop k) out = joinS (ps.drop (k + 1)) (out ++ bytesP (ps.getD k default)) := by
  rw [drop_dflt hk, joinS, if_pos ⟨h, h2⟩]
theorem join_end {ps : List Pd} {k : Nat} {out : List Int} (hk : ps.length ≤ k) : joinS (ps.drop k) out = (out, 0) := by
  rw [List.drop_of_length_le hk, joinS]
theorem joinV_nil {ps : List Pd} (h : ps.length = 0) : joinV ps = ([], 9) := if_pos (List.eq_nil_of_length_eq_zero h)
theorem joinV_cons {ps : List Pd} (h : ps.length ≠ 0) : joinV ps = joinS ps [] := if_neg (fun e => h (by rw [e]; rfl))
theorem wrap8_id {z : Int} (h0 : 0 ≤ z) (h1 : z ≤ 255) : IntKind.u8.wrap z = z := wrap_in h0 h1
theorem hd_one (id : Int) (L : Nat) : [id / 2 ^ 24, IntKind.u8.wrap (id / 2 ^ 16), IntKind.u8.wrap (id / 2 ^ 8), IntKind.u8.wrap id, (L : Int) / 256, (L : Int) % 256, 0, 0] = hdP id L := by
  have e : IntKind.u8.wrap (L : Int) = (L : Int) % 256 := by
    rw [IntKind.wrap_u8]
  unfold hdP
  rw [e]
  rfl
theorem pad_lt (L : Nat) : padN L ≤ 3 := by unfold padN; omega
theorem pad_step {n L j : Nat} (hl : n = L) (hj : j ≤ padN L) (hc : ¬ (8 + n + j) % 4 = 0) : j + 1 ≤ padN L := by unfold padN at *; omega
theorem pad_end {n L j : Nat} (hl : n = L) (hj : j ≤ padN L) (hc : (8 + n + j) % 4 = 0) : j = padN L := by unfold padN at *; omega
theorem put_row (p : Pd) (xs : List Int) : xs ++ [p.id / 2 ^ 24, IntKind.u8.wrap (p.id / 2 ^ 16), IntKind.u8.wrap (p.id / 2 ^ 8), IntKind.u8.wrap p.id, (p.data.length : Int) / 2 ^ 8, IntKind.u8.wrap (p.data.length : Int), 0, 0] ++ p.data ++ List.replicate (padN p.data.length) 0 = xs ++ bytesP p := by
  unfold bytesP hdP
  simp only [List.append_assoc]
theorem sizeP_rng (p : Pd) : 0 ≤ (sizeP p).1 ∧ (sizeP p).1 ≤ 2048 := by
  unfold sizeP
  split
  · simp
  · refine ⟨by simp, ?_⟩
    show (wholeN p.data.length : Int) ≤ 2048
    omega
theorem one_ok {w0 : World} {H : List Chunk} {p : Pd} (h : PdOk w0 H p) : ∀ k, PdOk w0 H ([p].getD k default)
  | 0 => h
  | k + 1 => by simpa using PdOk.dflt
theorem one_join (a : Option Addr) (n c : Nat) : joinV [⟨1, [9], a, n, c⟩] = ([0, 0, 0, 1, 0, 1, 0, 0, 9, 0, 0, 0], 0) := by
  rw [joinV_cons (by simp)]
  simp [joinS, sizeP, wholeN, padN, bytesP, hdP, IntKind.wrap_u8, List.replicate]
end Go.Sep
namespace Go.Sep
theorem pd_snoc {α : Type} [Inhabited α] {rs : List α} {k : Nat} (h : k < rs.length) : rs.take (k + 1) = rs.take k ++ [rs.getD k default] := by
  have e : rs[k] = rs.getD k default := by rw [List.getD_eq_getElem?_getD, List.getElem?_eq_getElem h]; rfl
  rw [List.take_succ_eq_append_getElem h, e]
end Go.Sep
