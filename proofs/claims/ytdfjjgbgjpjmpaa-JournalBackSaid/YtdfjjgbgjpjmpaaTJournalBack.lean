/-
  The law JournalBack holds for every input.
  No condition.
-/
import Derived.Test.YtdfjjgbgjpjmpaaRows
import Derived.Test.YtdfjjgbgjpjmpaaZ5

import Derived.KernelRfl
import Derived.ProofKit
import Derived.WalkKit
namespace Go.Proofs.Ytdfjjgbgjpjmpaa.journalBack
open Go.AW Go.ChangeShapes Go.WideShapes Go.ChangeAt Go.RowKit
set_option linter.unusedVariables false
set_option maxRecDepth 100000

instance theDraws : Draws := ⟨False⟩
theorem nodraw : ¬ Draws.up := fun h => h
theorem own : ownKnob Try.prog.godebug = none := by kernel_rfl
theorem laidOut : laidOutB Try.prog = true := by kernel_rfl

noncomputable def i_warehouselaw35_light : F_warehouselaw35_light Try.prog := ⟨13, ⟨Try.f13, Try.f13.body.getD .skip, Try.func13, by kernel_rfl, by kernel_rfl, by kernel_rfl, by kernel_rfl, by kernel_rfl⟩⟩
noncomputable def i_bytes_Clone : F_bytes_Clone Try.prog := ⟨22, ⟨Try.f22, Try.f22.body.getD .skip, Try.func22, by kernel_rfl, by kernel_rfl, by kernel_rfl, by kernel_rfl, by kernel_rfl⟩⟩
noncomputable def i_journal_put4 : F_journal_put4 Try.prog := ⟨21, ⟨Try.f21, Try.f21.body.getD .skip, Try.func21, by kernel_rfl, by kernel_rfl, by kernel_rfl, by kernel_rfl, by kernel_rfl⟩⟩
noncomputable def i_batch_Checksum : F_batch_Checksum Try.prog := ⟨27, ⟨Try.f27, Try.f27.body.getD .skip, Try.func27, by kernel_rfl, by kernel_rfl, by kernel_rfl, by kernel_rfl, by kernel_rfl⟩⟩
noncomputable def i_journal_sum : F_journal_sum Try.prog := ⟨23, i_journal_put4, i_batch_Checksum, ⟨Try.f23, Try.f23.body.getD .skip, Try.func23, by kernel_rfl, by kernel_rfl, by kernel_rfl, by kernel_rfl, by kernel_rfl⟩⟩
noncomputable def i_journal_Append : F_journal_Append Try.prog := ⟨10, i_bytes_Clone, i_journal_put4, i_journal_sum, ⟨Try.f10, Try.f10.body.getD .skip, Try.func10, by kernel_rfl, by kernel_rfl, by kernel_rfl, by kernel_rfl, by kernel_rfl⟩⟩
noncomputable def i_journal_number : F_journal_number Try.prog := ⟨29, ⟨Try.f29, Try.f29.body.getD .skip, Try.func29, by kernel_rfl, by kernel_rfl, by kernel_rfl, by kernel_rfl, by kernel_rfl⟩⟩
noncomputable def i_journal_entries_1 : F_journal_entries_1 Try.prog := ⟨28, i_journal_number, i_journal_sum, ⟨Try.f28, Try.f28.body.getD .skip, Try.func28, by kernel_rfl, by kernel_rfl, by kernel_rfl, by kernel_rfl, by kernel_rfl⟩⟩
noncomputable def i_journal_entries : F_journal_entries Try.prog := ⟨26, i_journal_entries_1, ⟨Try.f26, Try.f26.body.getD .skip, Try.func26, by kernel_rfl, by kernel_rfl, by kernel_rfl, by kernel_rfl, by kernel_rfl⟩⟩
noncomputable def i_journal_Read : F_journal_Read Try.prog := ⟨15, i_journal_entries, ⟨Try.f15, Try.f15.body.getD .skip, Try.func15, by kernel_rfl, by kernel_rfl, by kernel_rfl, by kernel_rfl, by kernel_rfl⟩⟩
noncomputable def i_journal_Repair : F_journal_Repair Try.prog := ⟨18, i_journal_Read, i_bytes_Clone, ⟨Try.f18, Try.f18.body.getD .skip, Try.func18, by kernel_rfl, by kernel_rfl, by kernel_rfl, by kernel_rfl, by kernel_rfl⟩⟩
noncomputable def i_warehouselaw35_known : F_warehouselaw35_known Try.prog := ⟨9, i_journal_Append, i_journal_Read, i_journal_Repair, ⟨Try.f9, Try.f9.body.getD .skip, Try.func9, by kernel_rfl, by kernel_rfl, by kernel_rfl, by kernel_rfl, by kernel_rfl⟩⟩
noncomputable def i_warehouselaw35_same : F_warehouselaw35_same Try.prog := ⟨17, ⟨Try.f17, Try.f17.body.getD .skip, Try.func17, by kernel_rfl, by kernel_rfl, by kernel_rfl, by kernel_rfl, by kernel_rfl⟩⟩
noncomputable def i_warehouselaw35_JournalBack : F_warehouselaw35_JournalBack Try.prog := ⟨5, i_warehouselaw35_light, i_warehouselaw35_known, i_journal_Append, i_journal_Read, i_warehouselaw35_same, ⟨Try.f5, Try.f5.body.getD .skip, Try.func5, by kernel_rfl, by kernel_rfl, by kernel_rfl, by kernel_rfl, by kernel_rfl⟩⟩

theorem lifted (os : Os) (started : os.Started) (H : Type) (enc : TypeId × Value → H) :
    ReturnsInHanded {} Try.checked os 5 .any (Rows.journalBackSpec.pre6 enc Try.prog Try.f5 Rows.journalBackRow.domain false) (Rows.journalBackSpec.post enc Try.prog Try.f5 false true false false) := by
  refine lifted_of_law (C := Try.checked) (n := 7) (tb := 4) (shs := [(false, [.slice [.slice [.int .u8]]])]) own started (by kernel_rfl) Try.func5
    (ChangeSpec.witness6 (enc := enc) (C := Try.checked) false ⟨#[], #[.slice none 0 0], []⟩ 8 (by kernel_rfl) (by kernel_rfl) (by kernel_rfl) (by kernel_rfl))
    laidOut (by kernel_rfl) (fun ds hd => ?_) rfl (by kernel_rfl) Try.underlying4 (by kernel_rfl) i_warehouselaw35_JournalBack.has ?_
  · have hd : ds.length = 1 := hd.trans (by kernel_rfl)
    obtain ⟨d0, rfl⟩ : ∃ d0, ds = [d0] := by
      match ds, hd with
      | [d0], _ => exact ⟨d0, rfl⟩
    rfl
  · intro xs h
    obtain ⟨y0, xs, rfl, p0, h⟩ := argsOk_cons h
    cases argsOk_nil h
    obtain ⟨x0, rfl, h0a, h0b⟩ := argOk_bytess p0
    first
      | exact law_JournalBack i_warehouselaw35_JournalBack (Try.jread nodraw) (Try.jread nodraw) (Try.jread nodraw) x0
      | exact law_JournalBack i_warehouselaw35_JournalBack (Try.jread nodraw) (Try.jread nodraw) (Try.jread nodraw) x0 h0a h0b

theorem over : Rows.journalBackRow.holds Try.pinned (OpenSpec.ofChange Rows.journalBackSpec) :=
  OpenClaim.holds_of_wide 5 Try.f5 rfl rfl rfl rfl rfl rfl rfl ⟨rfl, rfl, rfl, rfl, rfl⟩ rfl rfl rfl rfl rfl (by kernel_rfl) Try.func5 (by kernel_rfl)
    (of_decide_eq_true (by kernel_rfl)) (by unfold Func.isWrapper; first | (rw [if_pos (by decide +kernel)]; kernel_rfl) | (rw [if_neg (by decide +kernel)]; exact ⟨rfl, rfl⟩))
    (fun os started H enc _ => lifted os started H enc)

theorem proved : Rows.JournalBackSaid := over
#print axioms proved
end Go.Proofs.Ytdfjjgbgjpjmpaa.journalBack
