import Derived.Test.YthigfghfpmpiiaaDoorProg
import Derived.Test.YthigfghfpmpiiaaDoorFK20DE
import Derived.Test.YthigfghfpmpiiaaDoorP20c
import Derived.Test.YthigfghfpmpiiaaDoorS26
set_option linter.unusedVariables false
set_option linter.unusedSimpArgs false
namespace Go.Proofs.YthigfghfpmpiiaaDoor.M
open Go Go.Sep Go.Proofs
set_option maxRecDepth 10000
set_option maxHeartbeats 2000000
theorem samePT {w0 : World} {H : List Chunk} (ps : List Pd) (sa : Option Addr) (n c : Nat) (hRa : Rd w0 H sa n c 2 (List.flatMap PdC ps)) (hna : n = ps.length) (hka : ∀ q ∈ ps, PdOk w0 H q) (qs : List Pd) (sb : Option Addr) (m d : Nat) (hRb : Rd w0 H sb m d 2 (List.flatMap PdC qs)) (hnb : m = qs.length) (hkb : ∀ q ∈ qs, PdOk w0 H q) (hmx : n ≤ 4398046511000) (he : mg ps = mg qs) : SC Tryd.prog w0 14 #[.slice sa n c, .slice sb m d] H (fun v H' => v = .bool true ∧ H' = H) := by
  have h := sameP ps sa n c hRa hna hka qs sb m d hRb hnb hkb hmx
  rw [decide_eq_true he] at h
  exact h
theorem splitT {w0 : World} {H : List Chunk} (q : Sl) (hq : SlOk w0 H q) (ms : List Mg) (hd : q.d = joinB ms) (h0 : ms ≠ []) (hm : ∀ m ∈ ms, mOk m) (hu : usedM ms ≤ 2048) : SC Tryd.prog w0 12 #[.slice q.a q.n q.c] H (fun v H' => ∃ D a c' ps, v = .tuple #[.slice a ps.length c', .int .i64 0] ∧ H' = .row a ps.length c' 38 2 (List.flatMap PdC ps) :: (D ++ H) ∧ mg ps = ms ∧ (∀ y ∈ ps, PdOk w0 D y)) := by
  have h := split q.a q.n q.c q.d hq.rd hq.len hq.max hq.byte
  rw [hd, splitV_join h0 hm hu] at h
  exact h
end Go.Proofs.YthigfghfpmpiiaaDoor.M
