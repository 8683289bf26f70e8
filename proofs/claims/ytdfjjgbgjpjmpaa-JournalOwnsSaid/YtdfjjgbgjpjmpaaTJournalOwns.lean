/-
  The law JournalOwns holds for every input.
  No condition.
-/
import Derived.Test.YtdfjjgbgjpjmpaaRows
import Derived.Test.YtdfjjgbgjpjmpaaZ5

import Derived.KernelRfl
import Derived.ProofKit
import Derived.WalkKit
namespace Go.Proofs.Ytdfjjgbgjpjmpaa.journalOwns
open Go.AW Go.ChangeShapes Go.WideShapes Go.ChangeAt Go.RowKit
set_option linter.unusedVariables false
set_option maxRecDepth 100000

instance theDraws : Draws := ⟨False⟩
theorem nodraw : ¬ Draws.up := fun h => h
theorem own : ownKnob Try.prog.godebug = none := by kernel_rfl
theorem laidOut : laidOutB Try.prog = true := by kernel_rfl

noncomputable def i_warehouselaw35_light : F_warehouselaw35_light Try.prog := ⟨13, ⟨Try.f13, Try.f13.body.getD .skip, Try.func13, by kernel_rfl, by kernel_rfl, by kernel_rfl, by kernel_rfl, by kernel_rfl⟩⟩
noncomputable def i_bytes_Clone : F_bytes_Clone Try.prog := ⟨22, ⟨Try.f22, Try.f22.body.getD .skip, Try.func22, by kernel_rfl, by kernel_rfl, by kernel_rfl, by kernel_rfl, by kernel_rfl⟩⟩
noncomputable def i_journal_put4 : F_journal_put4 Try.prog := ⟨21, ⟨Try.f21, Try.f21.body.getD .skip, Try.func21, by kernel_rfl, by kernel_rfl, by kernel_rfl, by kernel_rfl, by kernel_rfl⟩⟩
noncomputable def i_batch_Checksum : F_batch_Checksum Try.prog := ⟨27, ⟨Try.f27, Try.f27.body.getD .skip, Try.func27, by kernel_rfl, by kernel_rfl, by kernel_rfl, by kernel_rfl, by kernel_rfl⟩⟩
noncomputable def i_journal_sum : F_journal_sum Try.prog := ⟨23, i_journal_put4, i_batch_Checksum, ⟨Try.f23, Try.f23.body.getD .skip, Try.func23, by kernel_rfl, by kernel_rfl, by kernel_rfl, by kernel_rfl, by kernel_rfl⟩⟩
noncomputable def i_journal_Append : F_journal_Append Try.prog := ⟨10, i_bytes_Clone, i_journal_put4, i_journal_sum, ⟨Try.f10, Try.f10.body.getD .skip, Try.func10, by kernel_rfl, by kernel_rfl, by kernel_rfl, by kernel_rfl, by kernel_rfl⟩⟩
noncomputable def i_journal_number : F_journal_number Try.prog := ⟨29, ⟨Try.f29, Try.f29.body.getD .skip, Try.func29, by kernel_rfl, by kernel_rfl, by kernel_rfl, by kernel_rfl, by kernel_rfl⟩⟩
noncomputable def i_journal_entries_1 : F_journal_entries_1 Try.prog := ⟨28, i_journal_number, i_journal_sum, ⟨Try.f28, Try.f28.body.getD .skip, Try.func28, by kernel_rfl, by kernel_rfl, by kernel_rfl, by kernel_rfl, by kernel_rfl⟩⟩
noncomputable def i_journal_entries : F_journal_entries Try.prog := ⟨26, i_journal_entries_1, ⟨Try.f26, Try.f26.body.getD .skip, Try.func26, by kernel_rfl, by kernel_rfl, by kernel_rfl, by kernel_rfl, by kernel_rfl⟩⟩
noncomputable def i_journal_Read : F_journal_Read Try.prog := ⟨15, i_journal_entries, ⟨Try.f15, Try.f15.body.getD .skip, Try.func15, by kernel_rfl, by kernel_rfl, by kernel_rfl, by kernel_rfl, by kernel_rfl⟩⟩
noncomputable def i_journal_Repair : F_journal_Repair Try.prog := ⟨18, i_journal_Read, i_bytes_Clone, ⟨Try.f18, Try.f18.body.getD .skip, Try.func18, by kernel_rfl, by kernel_rfl, by kernel_rfl, by kernel_rfl, by kernel_rfl⟩⟩
noncomputable def i_warehouselaw35_known : F_warehouselaw35_known Try.prog := ⟨9, i_journal_Append, i_journal_Read, i_journal_Repair, ⟨Try.f9, Try.f9.body.getD .skip, Try.func9, by kernel_rfl, by kernel_rfl, by kernel_rfl, by kernel_rfl, by kernel_rfl⟩⟩
noncomputable def i_warehouseref35_Number : F_warehouseref35_Number Try.prog := ⟨24, ⟨Try.f24, Try.f24.body.getD .skip, Try.func24, by kernel_rfl, by kernel_rfl, by kernel_rfl, by kernel_rfl, by kernel_rfl⟩⟩
noncomputable def i_warehouseref24_Checksum : F_warehouseref24_Checksum Try.prog := ⟨25, ⟨Try.f25, Try.f25.body.getD .skip, Try.func25, by kernel_rfl, by kernel_rfl, by kernel_rfl, by kernel_rfl, by kernel_rfl⟩⟩
noncomputable def i_warehouseref35_Entry : F_warehouseref35_Entry Try.prog := ⟨14, i_warehouseref35_Number, i_warehouseref24_Checksum, ⟨Try.f14, Try.f14.body.getD .skip, Try.func14, by kernel_rfl, by kernel_rfl, by kernel_rfl, by kernel_rfl, by kernel_rfl⟩⟩
noncomputable def i_warehouseworld_Place : F_warehouseworld_Place Try.prog := ⟨20, ⟨Try.f20, Try.f20.body.getD .skip, Try.func20, by kernel_rfl, by kernel_rfl, by kernel_rfl, by kernel_rfl, by kernel_rfl⟩⟩
noncomputable def i_warehouseworld_SameBytes : F_warehouseworld_SameBytes Try.prog := ⟨12, ⟨Try.f12, Try.f12.body.getD .skip, Try.func12, by kernel_rfl, by kernel_rfl, by kernel_rfl, by kernel_rfl, by kernel_rfl⟩⟩
noncomputable def i_warehouselaw35_same : F_warehouselaw35_same Try.prog := ⟨17, ⟨Try.f17, Try.f17.body.getD .skip, Try.func17, by kernel_rfl, by kernel_rfl, by kernel_rfl, by kernel_rfl, by kernel_rfl⟩⟩
noncomputable def i_warehouselaw35_JournalOwns : F_warehouselaw35_JournalOwns Try.prog := ⟨8, i_warehouselaw35_light, i_warehouselaw35_known, i_warehouseref35_Entry, i_journal_Append, i_journal_Read, i_journal_Repair, i_warehouseworld_Place, i_warehouseworld_SameBytes, i_warehouselaw35_same, ⟨Try.f8, Try.f8.body.getD .skip, Try.func8, by kernel_rfl, by kernel_rfl, by kernel_rfl, by kernel_rfl, by kernel_rfl⟩⟩

theorem lifted (os : Os) (started : os.Started) (H : Type) (enc : TypeId × Value → H) :
    ReturnsInHanded {} Try.checked os 8 .any (Rows.journalOwnsSpec.pre6 enc Try.prog Try.f8 Rows.journalOwnsRow.domain false) (Rows.journalOwnsSpec.post enc Try.prog Try.f8 false true false false) := by
  refine lifted_of_law (C := Try.checked) (n := 7) (tb := 4) (shs := [(false, [.slice [.slice [.int .u8]]]), (false, [.slice [.int .u8]]), (false, [.int .i64])]) own started (by kernel_rfl) Try.func8
    (ChangeSpec.witness6 (enc := enc) (C := Try.checked) false ⟨#[], #[.slice none 0 0, .slice none 0 0, .int .i64 0], []⟩ 8 (by kernel_rfl) (by kernel_rfl) (by kernel_rfl) (by kernel_rfl))
    laidOut (by kernel_rfl) (fun ds hd => ?_) rfl (by kernel_rfl) Try.underlying4 (by kernel_rfl) i_warehouselaw35_JournalOwns.has ?_
  · have hd : ds.length = 3 := hd.trans (by kernel_rfl)
    obtain ⟨d0, d1, d2, rfl⟩ : ∃ d0 d1 d2, ds = [d0, d1, d2] := by
      match ds, hd with
      | [d0, d1, d2], _ => exact ⟨d0, d1, d2, rfl⟩
    rfl
  · intro xs h
    obtain ⟨y0, xs, rfl, p0, h⟩ := argsOk_cons h
    obtain ⟨y1, xs, rfl, p1, h⟩ := argsOk_cons h
    obtain ⟨y2, xs, rfl, p2, h⟩ := argsOk_cons h
    cases argsOk_nil h
    obtain ⟨x0, rfl, h0a, h0b⟩ := argOk_bytess p0
    obtain ⟨x1, rfl, h1a, h1b⟩ := argOk_ints p1
    obtain ⟨x2, rfl, h2a⟩ := argOk_int p2
    first
      | exact law_JournalOwns i_warehouselaw35_JournalOwns (Try.jread nodraw) (Try.jread nodraw) (Try.jread nodraw) (Try.jread nodraw) x0 x1 x2
      | exact law_JournalOwns i_warehouselaw35_JournalOwns (Try.jread nodraw) (Try.jread nodraw) (Try.jread nodraw) (Try.jread nodraw) x0 x1 x2 h0a h0b h1a h1b h2a

theorem over : Rows.journalOwnsRow.holds Try.pinned (OpenSpec.ofChange Rows.journalOwnsSpec) :=
  OpenClaim.holds_of_wide 8 Try.f8 rfl rfl rfl rfl rfl rfl rfl ⟨rfl, rfl, rfl, rfl, rfl⟩ rfl rfl rfl rfl rfl (by kernel_rfl) Try.func8 (by kernel_rfl)
    (of_decide_eq_true (by kernel_rfl)) (by unfold Func.isWrapper; first | (rw [if_pos (by decide +kernel)]; kernel_rfl) | (rw [if_neg (by decide +kernel)]; exact ⟨rfl, rfl⟩))
    (fun os started H enc _ => lifted os started H enc)

theorem proved : Rows.JournalOwnsSaid := over
#print axioms proved
end Go.Proofs.Ytdfjjgbgjpjmpaa.journalOwns
