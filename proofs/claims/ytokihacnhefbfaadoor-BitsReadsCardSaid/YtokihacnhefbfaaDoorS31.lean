/- A contract of the library's, in our words: what lay below the call's first new block stands. -/
import Derived.Test.YtokihacnhefbfaaDoorS30
set_option linter.unusedVariables false
set_option linter.unusedSimpArgs false
namespace Go.Sep
open Go Go.RowKit
theorem Sat.grow {w0 w w' : World} {H : List Chunk} (h : Sat w0 w H) (hb : Below w.heap.size w w') : Sat w0 w' H := by
  have hsz : w0.heap.size ≤ w.heap.size := h.below.size
  have hk : ∀ b, b < w.heap.size → w'.heap[b]? = w.heap[b]? := hb.block
  refine ⟨⟨hb.os.trans h.below.os, hb.tape.trans h.below.tape, hb.output.trans h.below.output, Nat.le_trans h.below.size hb.size, fun k hk2 => (hk k (by omega)).trans (h.below.block k hk2)⟩, fun x hx => ?_, h.apart⟩
  have hxh := h.holds x hx
  cases x with
  | var b t cs => exact ⟨hxh.1, (hk b (Array.getElem?_eq_some_iff.1 hxh.2).1).trans hxh.2⟩
  | obj b o => exact ⟨hxh.1, (hk b (Array.getElem?_eq_some_iff.1 hxh.2.1).1).trans hxh.2.1, hxh.2.2⟩
  | row a n c e size xs =>
    refine ⟨hxh.1, ?_⟩
    rcases hxh.2 with h2 | ⟨g, cap, cur, hv, h3, h4, h5⟩
    · exact .inl h2
    · exact .inr ⟨g, cap, cur, hv, h3, (hk g (Array.getElem?_eq_some_iff.1 h4).1).trans h4, h5⟩
/-- A call that changes nothing of what there is. -/
theorem SC.ofBelow {P : Program} {w0 : World} {f : FuncId} {args : Array Value} {H : List Chunk} {v : Value} (h : ∀ w, Sat w0 w H → Calls P f args w (fun e w' => e = .returned v ∧ Below w.heap.size w w')) : SC P w0 f args H (fun v' H' => v' = v ∧ H' = H) :=
  fun w hw => (h w hw).mono fun _ _ ⟨e, b⟩ => ⟨v, H, e, hw.grow b, rfl, rfl⟩
end Go.Sep
