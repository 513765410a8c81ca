import Derived.Test.YtokihacnhefbfaaDoorProg
import Derived.Test.YtokihacnhefbfaaDoorFA1E
import Derived.Test.YtokihacnhefbfaaDoorP1b
set_option linter.unusedVariables false
set_option linter.unusedSimpArgs false
namespace Go.Proofs.YtokihacnhefbfaaDoor.M
open Go Go.Sep Go.Proofs
set_option maxRecDepth 10000
set_option maxHeartbeats 2000000
theorem putC {w0 : World} {H : List Chunk} (z s : Int) (z0 : 0 ≤ z) (z1 : z ≤ 18446744073709551615) : SC Tryd.prog w0 13 #[.int .u64 z, .int .i64 s] H (RV w0 H (putN z s).1 (putN z s).2) := by
  by_cases h : s < 0 ∨ 64 < s ∨ 0 < z.fdiv (2 ^ (min s.toNat 64))
  · rw [show putN z s = ([], 2) from if_pos h]
    exact (bput_bad z s z0 h).mono (by rintro _ _ ⟨rfl, rfl⟩; exact ⟨_, rfl, Res.nil⟩)
  · rw [show putN z s = (bitsS z s.toNat, 0) from if_neg h]
    obtain ⟨m, rfl⟩ : ∃ m : Nat, s = m := ⟨s.toNat, by omega⟩
    simp only [Int.toNat_natCast] at h ⊢
    refine SC.satR ((bput_ok z m z0 z1 (by omega) (by show z.fdiv (2 ^ (min m 64)) ≤ 0; omega)).mono ?_)
    rintro v _ ⟨a, c, rfl, rfl⟩ hs
    exact ⟨_, rfl, by have := bitsS_length z m; exact Res.row (n := m) hs (At.head _ _) (G := [_]) rfl⟩
end Go.Proofs.YtokihacnhefbfaaDoor.M
