import Derived.Test.YtecgicpimgghaaaProg
import Derived.Test.YtecgicpimgghaaaFJ18
set_option linter.unusedVariables false
set_option linter.unusedSimpArgs false
namespace Go.Proofs.Ytecgicpimgghaaa.M
open Go Go.Sep Go.Proofs
set_option maxRecDepth 10000
set_option maxHeartbeats 2000000
theorem openC {w0 : World} {H : List Chunk} (f : Frm) (sa : Option Addr) (n c : Nat) (hR : Rd w0 H sa n c 1 (f.data.map (.int .u8))) (hn : n = f.data.length) (hm : n ≤ 140737488351232) (hf : FrOk f) : SC Try.prog w0 22 #[FA f sa n c] H (OpV w0 H f) := by
  refine SC.satR ?_
  by_cases ho : opens f
  · by_cases h3 : f.sdt = 3
    · obtain ⟨e1, e2, e3, e4⟩ := open_et ho h3
      refine (open_eth f sa n c hR hn hm hf ho h3).mono ?_
      rintro _ _ ⟨a1, n1, c1, G1, rfl, hn1, hr1, rfl⟩ hs
      unfold OpV; rw [e1, e2, e3, e4]
      exact ⟨a1, n1, c1, none, 0, 0, none, 0, 0, G1, rfl, hn1, rfl, rfl, hr1.appr, Rd.nilZ, Rd.nilZ, rfl⟩
    · by_cases h6 : f.sdt = 6
      · obtain ⟨e1, e2, e3, e4⟩ := open_ol ho h6
        refine (open_old f sa n c hR hn hm hf ho h6).mono ?_
        rintro _ _ ⟨a1, n1, c1, G1, rfl, hn1, hr1, rfl⟩ hs
        unfold OpV; rw [e1, e2, e3, e4]
        exact ⟨none, 0, 0, a1, n1, c1, none, 0, 0, G1, rfl, rfl, hn1, rfl, Rd.nilZ, hr1.appr, Rd.nilZ, rfl⟩
      · by_cases h18 : f.sdt = 1 ∨ f.sdt = 8
        · obtain ⟨e1, e2, e3, e4⟩ := open_rw ho h18
          have key : SC Try.prog w0 22 #[FA f sa n c] H (fun v H' => ∃ a' c', v = .tuple #[EA zeroE none 0 0, FA (zeroF 0) none 0 0, .slice a' f.data.length c', .int .i64 0] ∧ H' = .row a' f.data.length c' 5 1 (f.data.map (.int .u8)) :: H) := by
            rcases h18 with h | h
            · exact open_raw1 f sa n c hR hn hm hf ho h
            · exact open_raw8 f sa n c hR hn hm hf ho h
          refine key.mono ?_
          rintro _ _ ⟨a1, c1, rfl, rfl⟩ hs
          unfold OpV; rw [e1, e2, e3, e4]
          exact ⟨none, 0, 0, none, 0, 0, a1, _, c1, [_], rfl, rfl, rfl, rfl, Rd.nilZ, Rd.nilZ, Rd.rowh hs (At.head _ _), rfl⟩
        · obtain ⟨e1, e2, e3, e4⟩ := open_al ho (by omega)
          refine (open_alien f sa n c hR hn hm hf ho (by omega)).mono ?_
          rintro _ _ ⟨rfl, rfl⟩ hs
          unfold OpV; rw [e1, e2, e3, e4]
          exact ⟨none, 0, 0, none, 0, 0, none, 0, 0, [], rfl, rfl, rfl, rfl, Rd.nilZ, Rd.nilZ, Rd.nilZ, rfl⟩
  · obtain ⟨e1, e2, e3, e4⟩ := open_bd ho
    refine (open_bad f sa n c hR hn hm hf (by unfold opens at ho; omega)).mono ?_
    rintro _ _ ⟨rfl, rfl⟩ hs
    unfold OpV; rw [e1, e2, e3, e4]
    exact ⟨none, 0, 0, none, 0, 0, none, 0, 0, [], rfl, rfl, rfl, rfl, Rd.nilZ, Rd.nilZ, Rd.nilZ, rfl⟩
end Go.Proofs.Ytecgicpimgghaaa.M
