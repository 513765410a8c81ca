import Derived.Test.YtokihacnhefbfaaDoorProg
import Derived.Test.YtokihacnhefbfaaDoorFF1E
import Derived.Test.YtokihacnhefbfaaDoorLY01
import Derived.Test.YtokihacnhefbfaaDoorP1c
set_option linter.unusedVariables false
set_option linter.unusedSimpArgs false
namespace Go.Proofs.YtokihacnhefbfaaDoor.M
open Go Go.Sep Go.Proofs Go.Shelf
set_option maxRecDepth 10000
set_option maxHeartbeats 2000000
theorem extra155 : Builder.Extra Tryd.prog lays155_ren := {
  sizeBuilder := by kernel_rfl,
  liesBuilder := by kernel_rfl,
  t5 := lays155.t5,
  a5 := lays155.a5,
  z5 := lays155.z5,
  v5 := lays155.v5,
  infoByte := by kernel_rfl,
  cellsByte := by kernel_rfl,
  sizeByte := by kernel_rfl,
  neB5 := by decide }
theorem glob_kept {w0 w : World} {H : List Chunk} {g : Nat} {v : Value} (hw : Sat w0 w H) (h : w0.cell? ⟨g, 0, none⟩ = some v) : w.cell? ⟨g, 0, none⟩ = some v := by
  have hlt : g < w0.heap.size := by
    rcases Nat.lt_or_ge g w0.heap.size with h1 | h1
    · exact h1
    · have h2 : w0.heap[g]? = none := Array.getElem?_eq_none h1
      simp [World.cell?, h2] at h
  have hb := hw.below.block g hlt
  unfold World.cell? at h ⊢
  rw [hb]; exact h
theorem replC {w0 : World} {H : List Chunk} (es : List Int) (hb : Byte es) (hl : es.length ≤ 65536) (mx : Int) (hml : w0.cell? ⟨0, 0, none⟩ = some (.int .i64 mx)) : SC Tryd.prog w0 20 #[.string (strI es), .string ⟨#[32]⟩, .string ⟨#[]⟩] H (fun v H' => v = .string (strI (fltI es)) ∧ H' = H) := by
  refine SC.ofBelow fun w hw => ?_
  have hc := glob_kept hw hml
  have hcb := countB_le' (strI es) ⟨#[32]⟩ (by decide)
  have h := Any.strings_ReplaceAll lays155 extra155 (strI es) ⟨#[32]⟩ ⟨#[]⟩ mx w (by rw [strI_size]; omega) hc (by decide) (by rw [strI_size]; show es.length + _ * 0 ≤ _; omega)
  have e := replaceAll_strI hb
  rw [← e]
  exact h
theorem trimC {w0 : World} {H : List Chunk} (fs : List Int) (hb : Byte fs) (hl : fs.length ≤ 65536) : SC Tryd.prog w0 21 #[.string (strI fs), .string ⟨#[48, 49]⟩] H (fun v H' => ∃ q : ByteArray, v = .string q ∧ (q.toList == (⟨#[]⟩ : ByteArray).toList) = (fs.all fun z => decide (z = 48 ∨ z = 49)) ∧ H' = H) := by
  have h : SC Tryd.prog w0 21 #[.string (strI fs), .string ⟨#[48, 49]⟩] H (fun v H' => v = .string ⟨(Lib.trimS (strI fs).data.toList [48, 49]).toArray⟩ ∧ H' = H) :=
    SC.ofBelow fun w hw => Any.strings_Trim_laid lays160 (by kernel_rfl) (strI fs) ⟨#[48, 49]⟩ w (by rw [strI_size]; omega) (by decide) (ascii_of_all (by decide))
  refine h.mono ?_
  rintro _ _ ⟨rfl, rfl⟩
  refine ⟨_, rfl, ?_, rfl⟩
  rw [← trim_ok hb, ByteArray.toList_mk, ByteArray.toList_mk]
end Go.Proofs.YtokihacnhefbfaaDoor.M
