import Derived.Test.YtjemdjjmpgjieaaS5
import Derived.ChangeSlices
import Derived.SizedLaws
import Derived.ShutString
import Derived.WideShapes
import Derived.RowKit
set_option linter.unusedVariables false
set_option linter.unusedSimpArgs false
/- What the rows open: slices of whole numbers. -/
namespace Go.Sep
open Go Go.RowKit Go.ChangeShapes Go.WideShapes
variable {Hd : Type} {enc : TypeId × Value → Hd} {P : Program} {W : World}
/-- A slice of whole numbers, opened for a row. -/
theorem row_ints {t e : TypeId} {k : IntKind} {base : Nat} {v : Value} {d : DataW Hd} {ps : List MemPlace} {ts : List TypeId} {ds : List (DataW Hd)} (j : Nat)
    (ht : P.underlying t = some (.slice e)) (he : P.underlying e = some (.int k)) (hc : P.cellsOf e = 1) (hval : Value.okWide P W .any base t v)
    (h : DataW.Trod enc P W 0 (fun _ => true) true t v d ps) (hsz : (DataW.weightsEach P ts ds).all (· ≤ reachBytes) = true) (hj : ts[j]? = some t) (hd : ds[j]? = some d) :
    ∃ (sa : Option Addr) (n c : Nat) (es : List Int), v = .slice sa n c ∧ n = es.length ∧ n ≤ c ∧ c * P.bytesOf e ≤ reachBytes ∧ (∀ z ∈ es, (Lit.int k z).wf = true) ∧ ∀ H, Rd W H sa n c 1 (es.map (.int k)) := by
  obtain ⟨a0, n0, c0, rfl⟩ := okWide_slice ht hval
  obtain ⟨fuel, hf⟩ := h
  rcases open_ints ht he hc hf with ⟨hcs, hx⟩ | ⟨a, len, cap, zs, hcs, _, hle, _, hall, hx, hcell, hwf⟩
  · simp [Value.cells] at hcs
    obtain ⟨rfl, rfl, rfl⟩ := hcs
    exact ⟨none, 0, 0, [], rfl, rfl, Nat.le_refl _, by simp, by simp, fun H => Rd.nil⟩
  · simp [Value.cells] at hcs
    obtain ⟨rfl, rfl, rfl⟩ := hcs
    simp only [Prod.mk.injEq] at hx
    obtain ⟨rfl, rfl⟩ := hx
    rw [if_pos rfl] at hall
    refine ⟨some a, n0, c0, zs.take n0, rfl, by simp; omega, hle, ?_, fun z hz => hwf z (List.mem_of_mem_take hz), fun H => Rd.ints hle (by omega) hcell⟩
    have z := sized_slice hsz hj hd ht
    simpa [lits, ← Nat.add_sub_assoc, hall, hle] using z
end Go.Sep
namespace Go.Sep
open Go
theorem wf_in {k : IntKind} {a : Int} (h : (Lit.int k a).wf = true) : loK k ≤ a ∧ a ≤ hiK k := by
  simp [Lit.wf] at h
  cases k <;> simpa [loK, hiK, IntKind.min, IntKind.max, IntKind.bits, IntKind.signed] using h
theorem wf_u16 {a : Int} (h : (Lit.int .u16 a).wf = true) : 0 ≤ a ∧ a ≤ 65535 := wf_in h
end Go.Sep
