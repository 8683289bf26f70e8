/-
  The law BatchOwns holds for every input.
  No condition.
-/
import Derived.Test.YtiigcfeklofcaaaRows
import Derived.Test.YtiigcfeklofcaaaZ5
import Derived.KernelRfl
import Derived.ProofKit
import Derived.WalkKit
namespace Go.Proofs.Ytiigcfeklofcaaa.batchOwns
open Go.AW Go.ChangeShapes Go.WideShapes Go.ChangeAt Go.RowKit
set_option linter.unusedVariables false
set_option maxRecDepth 100000

instance theDraws : Draws := ⟨False⟩
theorem nodraw : ¬ Draws.up := fun h => h
theorem own : ownKnob Try.prog.godebug = none := by kernel_rfl
theorem laidOut : laidOutB Try.prog = true := by kernel_rfl

noncomputable def i_schema_IsName : F_schema_IsName Try.prog := ⟨34, ⟨Try.f34, Try.f34.body.getD .skip, Try.func34, by kernel_rfl, by kernel_rfl, by kernel_rfl, by kernel_rfl, by kernel_rfl⟩⟩
noncomputable def i_bytealg_IndexByteString : F_bytealg_IndexByteString Try.prog := ⟨74, ⟨Try.f74, Try.func74, by kernel_rfl, by kernel_rfl, by kernel_rfl, by kernel_rfl⟩⟩
noncomputable def i_stringslite_IndexByte : F_stringslite_IndexByte Try.prog := ⟨69, i_bytealg_IndexByteString, ⟨Try.f69, Try.f69.body.getD .skip, Try.func69, by kernel_rfl, by kernel_rfl, by kernel_rfl, by kernel_rfl, by kernel_rfl⟩⟩
noncomputable def i_bytealg_hashStr_string : F_bytealg_hashStr_string Try.prog := ⟨75, ⟨Try.f75, Try.f75.body.getD .skip, Try.func75, by kernel_rfl, by kernel_rfl, by kernel_rfl, by kernel_rfl, by kernel_rfl⟩⟩
noncomputable def i_bytealg_IndexRabinKarp_string : F_bytealg_IndexRabinKarp_string Try.prog := ⟨72, i_bytealg_hashStr_string, ⟨Try.f72, Try.f72.body.getD .skip, Try.func72, by kernel_rfl, by kernel_rfl, by kernel_rfl, by kernel_rfl, by kernel_rfl⟩⟩
noncomputable def i_stringslite_Index : F_stringslite_Index Try.prog := ⟨66, i_stringslite_IndexByte, 70, i_bytealg_IndexRabinKarp_string, ⟨Try.f66, Try.f66.body.getD .skip, Try.func66, by kernel_rfl, by kernel_rfl, by kernel_rfl, by kernel_rfl, by kernel_rfl⟩⟩
noncomputable def i_stringslite_Cut : F_stringslite_Cut Try.prog := ⟨61, i_stringslite_Index, ⟨Try.f61, Try.f61.body.getD .skip, Try.func61, by kernel_rfl, by kernel_rfl, by kernel_rfl, by kernel_rfl, by kernel_rfl⟩⟩
noncomputable def i_strings_Cut : F_strings_Cut Try.prog := ⟨50, i_stringslite_Cut, ⟨Try.f50, Try.f50.body.getD .skip, Try.func50, by kernel_rfl, by kernel_rfl, by kernel_rfl, by kernel_rfl, by kernel_rfl⟩⟩
noncomputable def i_schema_IsQualified : F_schema_IsQualified Try.prog := ⟨35, i_strings_Cut, i_schema_IsName, ⟨Try.f35, Try.f35.body.getD .skip, Try.func35, by kernel_rfl, by kernel_rfl, by kernel_rfl, by kernel_rfl, by kernel_rfl⟩⟩
noncomputable def i_value_Valid : F_value_Valid Try.prog := ⟨51, ⟨Try.f51, Try.f51.body.getD .skip, Try.func51, by kernel_rfl, by kernel_rfl, by kernel_rfl, by kernel_rfl, by kernel_rfl⟩⟩
noncomputable def i_value_word : F_value_word Try.prog := ⟨52, ⟨Try.f52, Try.f52.body.getD .skip, Try.func52, by kernel_rfl, by kernel_rfl, by kernel_rfl, by kernel_rfl, by kernel_rfl⟩⟩
noncomputable def i_value_Encode : F_value_Encode Try.prog := ⟨36, i_value_Valid, i_value_word, ⟨Try.f36, Try.f36.body.getD .skip, Try.func36, by kernel_rfl, by kernel_rfl, by kernel_rfl, by kernel_rfl, by kernel_rfl⟩⟩
noncomputable def i_batch_Validate : F_batch_Validate Try.prog := ⟨17, i_schema_IsName, i_schema_IsQualified, i_value_Encode, ⟨Try.f17, Try.f17.body.getD .skip, Try.func17, by kernel_rfl, by kernel_rfl, by kernel_rfl, by kernel_rfl, by kernel_rfl⟩⟩
noncomputable def i_batch_putText : F_batch_putText Try.prog := ⟨25, ⟨Try.f25, Try.f25.body.getD .skip, Try.func25, by kernel_rfl, by kernel_rfl, by kernel_rfl, by kernel_rfl, by kernel_rfl⟩⟩
noncomputable def i_batch_put2 : F_batch_put2 Try.prog := ⟨26, ⟨Try.f26, Try.f26.body.getD .skip, Try.func26, by kernel_rfl, by kernel_rfl, by kernel_rfl, by kernel_rfl, by kernel_rfl⟩⟩
noncomputable def i_batch_put4 : F_batch_put4 Try.prog := ⟨28, i_batch_put2, ⟨Try.f28, Try.f28.body.getD .skip, Try.func28, by kernel_rfl, by kernel_rfl, by kernel_rfl, by kernel_rfl, by kernel_rfl⟩⟩
noncomputable def i_batch_putRecord : F_batch_putRecord Try.prog := ⟨27, i_value_Encode, i_batch_put4, i_batch_put2, ⟨Try.f27, Try.f27.body.getD .skip, Try.func27, by kernel_rfl, by kernel_rfl, by kernel_rfl, by kernel_rfl, by kernel_rfl⟩⟩
noncomputable def i_batch_Checksum : F_batch_Checksum Try.prog := ⟨11, ⟨Try.f11, Try.f11.body.getD .skip, Try.func11, by kernel_rfl, by kernel_rfl, by kernel_rfl, by kernel_rfl, by kernel_rfl⟩⟩
noncomputable def i_batch_Encode : F_batch_Encode Try.prog := ⟨14, i_batch_Validate, i_batch_putText, i_batch_put2, i_batch_putRecord, i_batch_Checksum, i_batch_put4, ⟨Try.f14, Try.f14.body.getD .skip, Try.func14, by kernel_rfl, by kernel_rfl, by kernel_rfl, by kernel_rfl, by kernel_rfl⟩⟩
noncomputable def i_bytes_Equal : F_bytes_Equal Try.prog := ⟨39, ⟨Try.f39, Try.f39.body.getD .skip, Try.func39, by kernel_rfl, by kernel_rfl, by kernel_rfl, by kernel_rfl, by kernel_rfl⟩⟩
noncomputable def i_batch_reader_take : F_batch_reader_take Try.prog := ⟨53, ⟨Try.f53, Try.f53.body.getD .skip, Try.func53, by kernel_rfl, by kernel_rfl, by kernel_rfl, by kernel_rfl, by kernel_rfl⟩⟩
noncomputable def i_batch_reader_number : F_batch_reader_number Try.prog := ⟨55, i_batch_reader_take, ⟨Try.f55, Try.f55.body.getD .skip, Try.func55, by kernel_rfl, by kernel_rfl, by kernel_rfl, by kernel_rfl, by kernel_rfl⟩⟩
noncomputable def i_batch_reader_text : F_batch_reader_text Try.prog := ⟨54, i_batch_reader_number, i_batch_reader_take, ⟨Try.f54, Try.f54.body.getD .skip, Try.func54, by kernel_rfl, by kernel_rfl, by kernel_rfl, by kernel_rfl, by kernel_rfl⟩⟩
noncomputable def i_value_number : F_value_number Try.prog := ⟨73, ⟨Try.f73, Try.f73.body.getD .skip, Try.func73, by kernel_rfl, by kernel_rfl, by kernel_rfl, by kernel_rfl, by kernel_rfl⟩⟩
noncomputable def i_value_decode : F_value_decode Try.prog := ⟨67, i_value_number, ⟨Try.f67, Try.f67.body.getD .skip, Try.func67, by kernel_rfl, by kernel_rfl, by kernel_rfl, by kernel_rfl, by kernel_rfl⟩⟩
noncomputable def i_value_Decode : F_value_Decode Try.prog := ⟨62, i_value_decode, i_value_Valid, ⟨Try.f62, Try.f62.body.getD .skip, Try.func62, by kernel_rfl, by kernel_rfl, by kernel_rfl, by kernel_rfl, by kernel_rfl⟩⟩
noncomputable def i_batch_reader_record : F_batch_reader_record Try.prog := ⟨56, i_batch_reader_number, i_batch_reader_take, i_value_Decode, ⟨Try.f56, Try.f56.body.getD .skip, Try.func56, by kernel_rfl, by kernel_rfl, by kernel_rfl, by kernel_rfl, by kernel_rfl⟩⟩
noncomputable def i_batch_reader_file : F_batch_reader_file Try.prog := ⟨40, i_batch_reader_take, i_batch_reader_text, i_batch_reader_number, i_batch_reader_record, ⟨Try.f40, Try.f40.body.getD .skip, Try.func40, by kernel_rfl, by kernel_rfl, by kernel_rfl, by kernel_rfl, by kernel_rfl⟩⟩
noncomputable def i_batch_Decode : F_batch_Decode Try.prog := ⟨20, i_batch_Checksum, i_batch_put4, i_bytes_Equal, i_batch_reader_file, i_batch_Encode, ⟨Try.f20, Try.f20.body.getD .skip, Try.func20, by kernel_rfl, by kernel_rfl, by kernel_rfl, by kernel_rfl, by kernel_rfl⟩⟩
noncomputable def i_batch_reader_fileB : F_batch_reader_fileB Try.prog := ⟨40, i_batch_reader_take, i_batch_reader_text, i_batch_reader_number, i_batch_reader_record, ⟨Try.f40, Try.f40.body.getD .skip, Try.func40, by kernel_rfl, by kernel_rfl, by kernel_rfl, by kernel_rfl, by kernel_rfl⟩⟩
noncomputable def i_batch_DecodeB : F_batch_DecodeB Try.prog := ⟨20, i_batch_Checksum, i_batch_put4, i_bytes_Equal, i_batch_reader_fileB, i_batch_Encode, ⟨Try.f20, Try.f20.body.getD .skip, Try.func20, by kernel_rfl, by kernel_rfl, by kernel_rfl, by kernel_rfl, by kernel_rfl⟩⟩
noncomputable def i_warehouselaw24_known : F_warehouselaw24_known Try.prog := ⟨10, i_batch_Encode, i_batch_Decode, i_batch_Checksum, ⟨Try.f10, Try.f10.body.getD .skip, Try.func10, by kernel_rfl, by kernel_rfl, by kernel_rfl, by kernel_rfl, by kernel_rfl⟩⟩
noncomputable def i_warehouseworld_Place : F_warehouseworld_Place Try.prog := ⟨23, ⟨Try.f23, Try.f23.body.getD .skip, Try.func23, by kernel_rfl, by kernel_rfl, by kernel_rfl, by kernel_rfl, by kernel_rfl⟩⟩
noncomputable def i_warehouseworld_Name : F_warehouseworld_Name Try.prog := ⟨32, i_warehouseworld_Place, ⟨Try.f32, Try.f32.body.getD .skip, Try.func32, by kernel_rfl, by kernel_rfl, by kernel_rfl, by kernel_rfl, by kernel_rfl⟩⟩
noncomputable def i_warehouseworld_Columns : F_warehouseworld_Columns Try.prog := ⟨49, i_warehouseworld_Place, ⟨Try.f49, Try.f49.body.getD .skip, Try.func49, by kernel_rfl, by kernel_rfl, by kernel_rfl, by kernel_rfl, by kernel_rfl⟩⟩
noncomputable def i_warehouseworld_Source : F_warehouseworld_Source Try.prog := ⟨33, i_warehouseworld_Columns, i_warehouseworld_Place, ⟨Try.f33, Try.f33.body.getD .skip, Try.func33, by kernel_rfl, by kernel_rfl, by kernel_rfl, by kernel_rfl, by kernel_rfl⟩⟩
noncomputable def i_warehouseworld_Numbers_Next : F_warehouseworld_Numbers_Next Try.prog := ⟨47, i_warehouseworld_Place, ⟨Try.f47, Try.f47.body.getD .skip, Try.func47, by kernel_rfl, by kernel_rfl, by kernel_rfl, by kernel_rfl, by kernel_rfl⟩⟩
noncomputable def i_warehouseworld_Instants : F_warehouseworld_Instants Try.prog := ⟨68, ⟨Try.f68, Try.f68.body.getD .skip, Try.func68, by kernel_rfl, by kernel_rfl, by kernel_rfl, by kernel_rfl, by kernel_rfl⟩⟩
noncomputable def i_warehouseworld_Value : F_warehouseworld_Value Try.prog := ⟨64, i_warehouseworld_Numbers_Next, i_warehouseworld_Instants, ⟨Try.f64, Try.f64.body.getD .skip, Try.func64, by kernel_rfl, by kernel_rfl, by kernel_rfl, by kernel_rfl, by kernel_rfl⟩⟩
noncomputable def i_warehouseworld_Row : F_warehouseworld_Row Try.prog := ⟨59, i_warehouseworld_Value, ⟨Try.f59, Try.f59.body.getD .skip, Try.func59, by kernel_rfl, by kernel_rfl, by kernel_rfl, by kernel_rfl, by kernel_rfl⟩⟩
noncomputable def i_warehouseref23_In : F_warehouseref23_In Try.prog := ⟨65, ⟨Try.f65, Try.f65.body.getD .skip, Try.func65, by kernel_rfl, by kernel_rfl, by kernel_rfl, by kernel_rfl, by kernel_rfl⟩⟩
noncomputable def i_warehouseworld_Deletion : F_warehouseworld_Deletion Try.prog := ⟨60, i_warehouseref23_In, ⟨Try.f60, Try.f60.body.getD .skip, Try.func60, by kernel_rfl, by kernel_rfl, by kernel_rfl, by kernel_rfl, by kernel_rfl⟩⟩
noncomputable def i_warehouseworld_Record : F_warehouseworld_Record Try.prog := ⟨48, i_warehouseworld_Numbers_Next, i_warehouseworld_Row, i_warehouseworld_Deletion, ⟨Try.f48, Try.f48.body.getD .skip, Try.func48, by kernel_rfl, by kernel_rfl, by kernel_rfl, by kernel_rfl, by kernel_rfl⟩⟩
noncomputable def i_warehouseworld_File : F_warehouseworld_File Try.prog := ⟨31, i_warehouseworld_Numbers_Next, i_warehouseworld_Record, ⟨Try.f31, Try.f31.body.getD .skip, Try.func31, by kernel_rfl, by kernel_rfl, by kernel_rfl, by kernel_rfl, by kernel_rfl⟩⟩
noncomputable def i_warehouselaw24_file : F_warehouselaw24_file Try.prog := ⟨16, i_warehouseworld_Name, i_warehouseworld_Source, i_warehouseworld_File, ⟨Try.f16, Try.f16.body.getD .skip, Try.func16, by kernel_rfl, by kernel_rfl, by kernel_rfl, by kernel_rfl, by kernel_rfl⟩⟩
noncomputable def i_warehouseref24_CopyFile : F_warehouseref24_CopyFile Try.prog := ⟨24, ⟨Try.f24, Try.f24.body.getD .skip, Try.func24, by kernel_rfl, by kernel_rfl, by kernel_rfl, by kernel_rfl, by kernel_rfl⟩⟩
noncomputable def i_warehouseref22_SameRow : F_warehouseref22_SameRow Try.prog := ⟨58, ⟨Try.f58, Try.f58.body.getD .skip, Try.func58, by kernel_rfl, by kernel_rfl, by kernel_rfl, by kernel_rfl, by kernel_rfl⟩⟩
noncomputable def i_warehouseref24_SameRecord : F_warehouseref24_SameRecord Try.prog := ⟨44, i_warehouseref22_SameRow, ⟨Try.f44, Try.f44.body.getD .skip, Try.func44, by kernel_rfl, by kernel_rfl, by kernel_rfl, by kernel_rfl, by kernel_rfl⟩⟩
noncomputable def i_warehouseref24_SameFile : F_warehouseref24_SameFile Try.prog := ⟨22, i_warehouseref24_SameRecord, ⟨Try.f22, Try.f22.body.getD .skip, Try.func22, by kernel_rfl, by kernel_rfl, by kernel_rfl, by kernel_rfl, by kernel_rfl⟩⟩
noncomputable def i_warehouselaw24_BatchOwns : F_warehouselaw24_BatchOwns Try.prog := ⟨9, i_warehouselaw24_known, i_warehouselaw24_file, i_warehouseref24_CopyFile, i_batch_Encode, i_warehouseref24_SameFile, i_batch_DecodeB, ⟨Try.f9, Try.f9.body.getD .skip, Try.func9, by kernel_rfl, by kernel_rfl, by kernel_rfl, by kernel_rfl, by kernel_rfl⟩⟩

theorem lifted (os : Os) (started : os.Started) (H : Type) (enc : TypeId × Value → H) :
    ReturnsInHanded {} Try.checked os 9 .any (Rows.batchOwnsSpec.pre6 enc Try.prog Try.f9 Rows.batchOwnsRow.domain false) (Rows.batchOwnsSpec.post enc Try.prog Try.f9 false true false false) := by
  refine lifted_of_law (C := Try.checked) (n := 7) (tb := 4) (shs := [(false, [.slice [.int .i64]]), (false, [.int .i64])]) own started (by kernel_rfl) Try.func9
    (ChangeSpec.witness6 (enc := enc) (C := Try.checked) false ⟨#[], #[.slice none 0 0, .int .i64 0], []⟩ 8 (by kernel_rfl) (by kernel_rfl) (by kernel_rfl) (by kernel_rfl))
    laidOut (by kernel_rfl) (fun ds hd => ?_) rfl (by kernel_rfl) Try.underlying4 (by kernel_rfl) i_warehouselaw24_BatchOwns.has ?_
  · have hd : ds.length = 2 := hd.trans (by kernel_rfl)
    obtain ⟨d0, d1, rfl⟩ : ∃ d0 d1, ds = [d0, d1] := by
      match ds, hd with
      | [d0, d1], _ => exact ⟨d0, d1, rfl⟩
    rfl
  · intro xs h
    obtain ⟨y0, xs, rfl, p0, h⟩ := argsOk_cons h
    obtain ⟨y1, xs, rfl, p1, h⟩ := argsOk_cons h
    cases argsOk_nil h
    obtain ⟨x0, rfl, h0a, h0b⟩ := argOk_ints p0
    obtain ⟨x1, rfl, h1a⟩ := argOk_int p1
    first
      | exact law_BatchOwns i_warehouselaw24_BatchOwns x0 x1
      | exact law_BatchOwns i_warehouselaw24_BatchOwns x0 x1 h0a h0b h1a

theorem over : Rows.batchOwnsRow.holds Try.pinned (OpenSpec.ofChange Rows.batchOwnsSpec) :=
  OpenClaim.holds_of_wide 9 Try.f9 rfl rfl rfl rfl rfl rfl rfl ⟨rfl, rfl, rfl, rfl, rfl⟩ rfl rfl rfl rfl rfl (by kernel_rfl) Try.func9 (by kernel_rfl)
    (of_decide_eq_true (by kernel_rfl)) (by unfold Func.isWrapper; first | (rw [if_pos (by decide +kernel)]; kernel_rfl) | (rw [if_neg (by decide +kernel)]; exact ⟨rfl, rfl⟩))
    (fun os started H enc _ => lifted os started H enc)

theorem proved : Rows.BatchOwnsSaid := over
#print axioms proved
end Go.Proofs.Ytiigcfeklofcaaa.batchOwns
