/-
  The law BatchTurned holds for every input.
  No condition.
-/
import Derived.Test.YtiigcfeklofcaaaRows
import Derived.Test.YtiigcfeklofcaaaZ7
import Derived.KernelRfl
import Derived.ProofKit
import Derived.WalkKit
namespace Go.Proofs.Ytiigcfeklofcaaa.batchTurned
open Go.AW Go.ChangeShapes Go.WideShapes Go.ChangeAt Go.RowKit
set_option linter.unusedVariables false
set_option maxRecDepth 100000

theorem own : ownKnob Try.prog.godebug = none := by kernel_rfl
theorem laidOut : laidOutB Try.prog = true := by kernel_rfl

noncomputable def i_schema_IsName : F_schema_IsName Try.prog := ⟨34, ⟨Try.f34, Try.f34.body.getD .skip, Try.func34, by kernel_rfl, by kernel_rfl, by kernel_rfl, by kernel_rfl, by kernel_rfl⟩⟩
noncomputable def i_bytealg_IndexByteString : F_bytealg_IndexByteString Try.prog := ⟨74, ⟨Try.f74, Try.func74, by kernel_rfl, by kernel_rfl, by kernel_rfl, by kernel_rfl⟩⟩
noncomputable def i_stringslite_IndexByte : F_stringslite_IndexByte Try.prog := ⟨69, i_bytealg_IndexByteString, ⟨Try.f69, Try.f69.body.getD .skip, Try.func69, by kernel_rfl, by kernel_rfl, by kernel_rfl, by kernel_rfl, by kernel_rfl⟩⟩
noncomputable def i_bytealg_hashStr_string : F_bytealg_hashStr_string Try.prog := ⟨75, ⟨Try.f75, Try.f75.body.getD .skip, Try.func75, by kernel_rfl, by kernel_rfl, by kernel_rfl, by kernel_rfl, by kernel_rfl⟩⟩
noncomputable def i_bytealg_IndexRabinKarp_string : F_bytealg_IndexRabinKarp_string Try.prog := ⟨72, i_bytealg_hashStr_string, ⟨Try.f72, Try.f72.body.getD .skip, Try.func72, by kernel_rfl, by kernel_rfl, by kernel_rfl, by kernel_rfl, by kernel_rfl⟩⟩
noncomputable def i_stringslite_Index : F_stringslite_Index Try.prog := ⟨66, i_stringslite_IndexByte, 70, i_bytealg_IndexRabinKarp_string, ⟨Try.f66, Try.f66.body.getD .skip, Try.func66, by kernel_rfl, by kernel_rfl, by kernel_rfl, by kernel_rfl, by kernel_rfl⟩⟩
noncomputable def i_stringslite_Cut : F_stringslite_Cut Try.prog := ⟨61, i_stringslite_Index, ⟨Try.f61, Try.f61.body.getD .skip, Try.func61, by kernel_rfl, by kernel_rfl, by kernel_rfl, by kernel_rfl, by kernel_rfl⟩⟩
noncomputable def i_strings_Cut : F_strings_Cut Try.prog := ⟨50, i_stringslite_Cut, ⟨Try.f50, Try.f50.body.getD .skip, Try.func50, by kernel_rfl, by kernel_rfl, by kernel_rfl, by kernel_rfl, by kernel_rfl⟩⟩
noncomputable def i_schema_IsQualified : F_schema_IsQualified Try.prog := ⟨35, i_strings_Cut, i_schema_IsName, ⟨Try.f35, Try.f35.body.getD .skip, Try.func35, by kernel_rfl, by kernel_rfl, by kernel_rfl, by kernel_rfl, by kernel_rfl⟩⟩
noncomputable def i_value_Valid : F_value_Valid Try.prog := ⟨51, ⟨Try.f51, Try.f51.body.getD .skip, Try.func51, by kernel_rfl, by kernel_rfl, by kernel_rfl, by kernel_rfl, by kernel_rfl⟩⟩
noncomputable def i_value_word : F_value_word Try.prog := ⟨52, ⟨Try.f52, Try.f52.body.getD .skip, Try.func52, by kernel_rfl, by kernel_rfl, by kernel_rfl, by kernel_rfl, by kernel_rfl⟩⟩
noncomputable def i_value_Encode : F_value_Encode Try.prog := ⟨36, i_value_Valid, i_value_word, ⟨Try.f36, Try.f36.body.getD .skip, Try.func36, by kernel_rfl, by kernel_rfl, by kernel_rfl, by kernel_rfl, by kernel_rfl⟩⟩
noncomputable def i_batch_Validate : F_batch_Validate Try.prog := ⟨17, i_schema_IsName, i_schema_IsQualified, i_value_Encode, ⟨Try.f17, Try.f17.body.getD .skip, Try.func17, by kernel_rfl, by kernel_rfl, by kernel_rfl, by kernel_rfl, by kernel_rfl⟩⟩
noncomputable def i_batch_putText : F_batch_putText Try.prog := ⟨25, ⟨Try.f25, Try.f25.body.getD .skip, Try.func25, by kernel_rfl, by kernel_rfl, by kernel_rfl, by kernel_rfl, by kernel_rfl⟩⟩
noncomputable def i_batch_put2 : F_batch_put2 Try.prog := ⟨26, ⟨Try.f26, Try.f26.body.getD .skip, Try.func26, by kernel_rfl, by kernel_rfl, by kernel_rfl, by kernel_rfl, by kernel_rfl⟩⟩
noncomputable def i_batch_put4 : F_batch_put4 Try.prog := ⟨28, i_batch_put2, ⟨Try.f28, Try.f28.body.getD .skip, Try.func28, by kernel_rfl, by kernel_rfl, by kernel_rfl, by kernel_rfl, by kernel_rfl⟩⟩
noncomputable def i_batch_putRecord : F_batch_putRecord Try.prog := ⟨27, i_value_Encode, i_batch_put4, i_batch_put2, ⟨Try.f27, Try.f27.body.getD .skip, Try.func27, by kernel_rfl, by kernel_rfl, by kernel_rfl, by kernel_rfl, by kernel_rfl⟩⟩
noncomputable def i_batch_Checksum : F_batch_Checksum Try.prog := ⟨11, ⟨Try.f11, Try.f11.body.getD .skip, Try.func11, by kernel_rfl, by kernel_rfl, by kernel_rfl, by kernel_rfl, by kernel_rfl⟩⟩
noncomputable def i_batch_Encode : F_batch_Encode Try.prog := ⟨14, i_batch_Validate, i_batch_putText, i_batch_put2, i_batch_putRecord, i_batch_Checksum, i_batch_put4, ⟨Try.f14, Try.f14.body.getD .skip, Try.func14, by kernel_rfl, by kernel_rfl, by kernel_rfl, by kernel_rfl, by kernel_rfl⟩⟩
noncomputable def i_bytes_Equal : F_bytes_Equal Try.prog := ⟨39, ⟨Try.f39, Try.f39.body.getD .skip, Try.func39, by kernel_rfl, by kernel_rfl, by kernel_rfl, by kernel_rfl, by kernel_rfl⟩⟩
noncomputable def i_batch_reader_take : F_batch_reader_take Try.prog := ⟨53, ⟨Try.f53, Try.f53.body.getD .skip, Try.func53, by kernel_rfl, by kernel_rfl, by kernel_rfl, by kernel_rfl, by kernel_rfl⟩⟩
noncomputable def i_batch_reader_number : F_batch_reader_number Try.prog := ⟨55, i_batch_reader_take, ⟨Try.f55, Try.f55.body.getD .skip, Try.func55, by kernel_rfl, by kernel_rfl, by kernel_rfl, by kernel_rfl, by kernel_rfl⟩⟩
noncomputable def i_batch_reader_text : F_batch_reader_text Try.prog := ⟨54, i_batch_reader_number, i_batch_reader_take, ⟨Try.f54, Try.f54.body.getD .skip, Try.func54, by kernel_rfl, by kernel_rfl, by kernel_rfl, by kernel_rfl, by kernel_rfl⟩⟩
noncomputable def i_value_number : F_value_number Try.prog := ⟨73, ⟨Try.f73, Try.f73.body.getD .skip, Try.func73, by kernel_rfl, by kernel_rfl, by kernel_rfl, by kernel_rfl, by kernel_rfl⟩⟩
noncomputable def i_value_decode : F_value_decode Try.prog := ⟨67, i_value_number, ⟨Try.f67, Try.f67.body.getD .skip, Try.func67, by kernel_rfl, by kernel_rfl, by kernel_rfl, by kernel_rfl, by kernel_rfl⟩⟩
noncomputable def i_value_Decode : F_value_Decode Try.prog := ⟨62, i_value_decode, i_value_Valid, ⟨Try.f62, Try.f62.body.getD .skip, Try.func62, by kernel_rfl, by kernel_rfl, by kernel_rfl, by kernel_rfl, by kernel_rfl⟩⟩
noncomputable def i_batch_reader_record : F_batch_reader_record Try.prog := ⟨56, i_batch_reader_number, i_batch_reader_take, i_value_Decode, ⟨Try.f56, Try.f56.body.getD .skip, Try.func56, by kernel_rfl, by kernel_rfl, by kernel_rfl, by kernel_rfl, by kernel_rfl⟩⟩
noncomputable def i_batch_reader_file : F_batch_reader_file Try.prog := ⟨40, i_batch_reader_take, i_batch_reader_text, i_batch_reader_number, i_batch_reader_record, ⟨Try.f40, Try.f40.body.getD .skip, Try.func40, by kernel_rfl, by kernel_rfl, by kernel_rfl, by kernel_rfl, by kernel_rfl⟩⟩
noncomputable def i_batch_Decode : F_batch_Decode Try.prog := ⟨20, i_batch_Checksum, i_batch_put4, i_bytes_Equal, i_batch_reader_file, i_batch_Encode, ⟨Try.f20, Try.f20.body.getD .skip, Try.func20, by kernel_rfl, by kernel_rfl, by kernel_rfl, by kernel_rfl, by kernel_rfl⟩⟩
noncomputable def i_warehouselaw24_known : F_warehouselaw24_known Try.prog := ⟨10, i_batch_Encode, i_batch_Decode, i_batch_Checksum, ⟨Try.f10, Try.f10.body.getD .skip, Try.func10, by kernel_rfl, by kernel_rfl, by kernel_rfl, by kernel_rfl, by kernel_rfl⟩⟩
noncomputable def i_warehouseworld_Place : F_warehouseworld_Place Try.prog := ⟨23, ⟨Try.f23, Try.f23.body.getD .skip, Try.func23, by kernel_rfl, by kernel_rfl, by kernel_rfl, by kernel_rfl, by kernel_rfl⟩⟩
noncomputable def i_warehouseworld_Name : F_warehouseworld_Name Try.prog := ⟨32, i_warehouseworld_Place, ⟨Try.f32, Try.f32.body.getD .skip, Try.func32, by kernel_rfl, by kernel_rfl, by kernel_rfl, by kernel_rfl, by kernel_rfl⟩⟩
noncomputable def i_warehouseworld_Columns : F_warehouseworld_Columns Try.prog := ⟨49, i_warehouseworld_Place, ⟨Try.f49, Try.f49.body.getD .skip, Try.func49, by kernel_rfl, by kernel_rfl, by kernel_rfl, by kernel_rfl, by kernel_rfl⟩⟩
noncomputable def i_warehouseworld_Source : F_warehouseworld_Source Try.prog := ⟨33, i_warehouseworld_Columns, i_warehouseworld_Place, ⟨Try.f33, Try.f33.body.getD .skip, Try.func33, by kernel_rfl, by kernel_rfl, by kernel_rfl, by kernel_rfl, by kernel_rfl⟩⟩
noncomputable def i_warehouseworld_Numbers_Next : F_warehouseworld_Numbers_Next Try.prog := ⟨47, i_warehouseworld_Place, ⟨Try.f47, Try.f47.body.getD .skip, Try.func47, by kernel_rfl, by kernel_rfl, by kernel_rfl, by kernel_rfl, by kernel_rfl⟩⟩
noncomputable def i_warehouseworld_Instants : F_warehouseworld_Instants Try.prog := ⟨68, ⟨Try.f68, Try.f68.body.getD .skip, Try.func68, by kernel_rfl, by kernel_rfl, by kernel_rfl, by kernel_rfl, by kernel_rfl⟩⟩
noncomputable def i_warehouseworld_Value : F_warehouseworld_Value Try.prog := ⟨64, i_warehouseworld_Numbers_Next, i_warehouseworld_Instants, ⟨Try.f64, Try.f64.body.getD .skip, Try.func64, by kernel_rfl, by kernel_rfl, by kernel_rfl, by kernel_rfl, by kernel_rfl⟩⟩
noncomputable def i_warehouseworld_Row : F_warehouseworld_Row Try.prog := ⟨59, i_warehouseworld_Value, ⟨Try.f59, Try.f59.body.getD .skip, Try.func59, by kernel_rfl, by kernel_rfl, by kernel_rfl, by kernel_rfl, by kernel_rfl⟩⟩
noncomputable def i_warehouseref23_In : F_warehouseref23_In Try.prog := ⟨65, ⟨Try.f65, Try.f65.body.getD .skip, Try.func65, by kernel_rfl, by kernel_rfl, by kernel_rfl, by kernel_rfl, by kernel_rfl⟩⟩
noncomputable def i_warehouseworld_Deletion : F_warehouseworld_Deletion Try.prog := ⟨60, i_warehouseref23_In, ⟨Try.f60, Try.f60.body.getD .skip, Try.func60, by kernel_rfl, by kernel_rfl, by kernel_rfl, by kernel_rfl, by kernel_rfl⟩⟩
noncomputable def i_warehouseworld_Record : F_warehouseworld_Record Try.prog := ⟨48, i_warehouseworld_Numbers_Next, i_warehouseworld_Row, i_warehouseworld_Deletion, ⟨Try.f48, Try.f48.body.getD .skip, Try.func48, by kernel_rfl, by kernel_rfl, by kernel_rfl, by kernel_rfl, by kernel_rfl⟩⟩
noncomputable def i_warehouseworld_File : F_warehouseworld_File Try.prog := ⟨31, i_warehouseworld_Numbers_Next, i_warehouseworld_Record, ⟨Try.f31, Try.f31.body.getD .skip, Try.func31, by kernel_rfl, by kernel_rfl, by kernel_rfl, by kernel_rfl, by kernel_rfl⟩⟩
noncomputable def i_warehouselaw24_file : F_warehouselaw24_file Try.prog := ⟨16, i_warehouseworld_Name, i_warehouseworld_Source, i_warehouseworld_File, ⟨Try.f16, Try.f16.body.getD .skip, Try.func16, by kernel_rfl, by kernel_rfl, by kernel_rfl, by kernel_rfl, by kernel_rfl⟩⟩
noncomputable def i_warehouseref24_Checksum : F_warehouseref24_Checksum Try.prog := ⟨12, ⟨Try.f12, Try.f12.body.getD .skip, Try.func12, by kernel_rfl, by kernel_rfl, by kernel_rfl, by kernel_rfl, by kernel_rfl⟩⟩
noncomputable def i_warehouseref24_number : F_warehouseref24_number Try.prog := ⟨29, ⟨Try.f29, Try.f29.body.getD .skip, Try.func29, by kernel_rfl, by kernel_rfl, by kernel_rfl, by kernel_rfl, by kernel_rfl⟩⟩
noncomputable def i_warehouseref24_reader_take : F_warehouseref24_reader_take Try.prog := ⟨41, ⟨Try.f41, Try.f41.body.getD .skip, Try.func41, by kernel_rfl, by kernel_rfl, by kernel_rfl, by kernel_rfl, by kernel_rfl⟩⟩
noncomputable def i_warehouseref24_reader_number : F_warehouseref24_reader_number Try.prog := ⟨42, i_warehouseref24_reader_take, ⟨Try.f42, Try.f42.body.getD .skip, Try.func42, by kernel_rfl, by kernel_rfl, by kernel_rfl, by kernel_rfl, by kernel_rfl⟩⟩
noncomputable def i_warehouseref1_number : F_warehouseref1_number Try.prog := ⟨63, ⟨Try.f63, Try.f63.body.getD .skip, Try.func63, by kernel_rfl, by kernel_rfl, by kernel_rfl, by kernel_rfl, by kernel_rfl⟩⟩
noncomputable def i_warehouseref1_decode : F_warehouseref1_decode Try.prog := ⟨57, i_warehouseref1_number, ⟨Try.f57, Try.f57.body.getD .skip, Try.func57, by kernel_rfl, by kernel_rfl, by kernel_rfl, by kernel_rfl, by kernel_rfl⟩⟩
noncomputable def i_warehouseref1_Valid : F_warehouseref1_Valid Try.prog := ⟨45, ⟨Try.f45, Try.f45.body.getD .skip, Try.func45, by kernel_rfl, by kernel_rfl, by kernel_rfl, by kernel_rfl, by kernel_rfl⟩⟩
noncomputable def i_warehouseref1_Decode : F_warehouseref1_Decode Try.prog := ⟨43, i_warehouseref1_decode, i_warehouseref1_Valid, ⟨Try.f43, Try.f43.body.getD .skip, Try.func43, by kernel_rfl, by kernel_rfl, by kernel_rfl, by kernel_rfl, by kernel_rfl⟩⟩
noncomputable def i_warehouseref5_IsName : F_warehouseref5_IsName Try.prog := ⟨37, ⟨Try.f37, Try.f37.body.getD .skip, Try.func37, by kernel_rfl, by kernel_rfl, by kernel_rfl, by kernel_rfl, by kernel_rfl⟩⟩
noncomputable def i_warehouseref5_IsQualified : F_warehouseref5_IsQualified Try.prog := ⟨38, i_warehouseref5_IsName, ⟨Try.f38, Try.f38.body.getD .skip, Try.func38, by kernel_rfl, by kernel_rfl, by kernel_rfl, by kernel_rfl, by kernel_rfl⟩⟩
noncomputable def i_warehouseref1_four : F_warehouseref1_four Try.prog := ⟨46, ⟨Try.f46, Try.f46.body.getD .skip, Try.func46, by kernel_rfl, by kernel_rfl, by kernel_rfl, by kernel_rfl, by kernel_rfl⟩⟩
noncomputable def i_warehouseref1_Encode : F_warehouseref1_Encode Try.prog := ⟨30, i_warehouseref1_Valid, i_warehouseref1_four, ⟨Try.f30, Try.f30.body.getD .skip, Try.func30, by kernel_rfl, by kernel_rfl, by kernel_rfl, by kernel_rfl, by kernel_rfl⟩⟩
noncomputable def i_warehouseref24_Validate : F_warehouseref24_Validate Try.prog := ⟨18, i_warehouseref5_IsName, i_warehouseref5_IsQualified, i_warehouseref1_Encode, ⟨Try.f18, Try.f18.body.getD .skip, Try.func18, by kernel_rfl, by kernel_rfl, by kernel_rfl, by kernel_rfl, by kernel_rfl⟩⟩
noncomputable def i_warehouseref24_Encode : F_warehouseref24_Encode Try.prog := ⟨15, i_warehouseref24_Validate, i_warehouseref24_number, i_warehouseref1_Encode, i_warehouseref24_Checksum, ⟨Try.f15, Try.f15.body.getD .skip, Try.func15, by kernel_rfl, by kernel_rfl, by kernel_rfl, by kernel_rfl, by kernel_rfl⟩⟩
noncomputable def i_warehouseref24_Decode : F_warehouseref24_Decode Try.prog := ⟨21, i_warehouseref24_Checksum, i_warehouseref24_number, i_warehouseref24_reader_take, i_warehouseref24_reader_number, i_warehouseref1_Decode, i_warehouseref24_Encode, ⟨Try.f21, Try.f21.body.getD .skip, Try.func21, by kernel_rfl, by kernel_rfl, by kernel_rfl, by kernel_rfl, by kernel_rfl⟩⟩
noncomputable def i_warehouseref22_SameRow : F_warehouseref22_SameRow Try.prog := ⟨58, ⟨Try.f58, Try.f58.body.getD .skip, Try.func58, by kernel_rfl, by kernel_rfl, by kernel_rfl, by kernel_rfl, by kernel_rfl⟩⟩
noncomputable def i_warehouseref24_SameRecord : F_warehouseref24_SameRecord Try.prog := ⟨44, i_warehouseref22_SameRow, ⟨Try.f44, Try.f44.body.getD .skip, Try.func44, by kernel_rfl, by kernel_rfl, by kernel_rfl, by kernel_rfl, by kernel_rfl⟩⟩
noncomputable def i_warehouseref24_SameFile : F_warehouseref24_SameFile Try.prog := ⟨22, i_warehouseref24_SameRecord, ⟨Try.f22, Try.f22.body.getD .skip, Try.func22, by kernel_rfl, by kernel_rfl, by kernel_rfl, by kernel_rfl, by kernel_rfl⟩⟩
noncomputable def i_warehouselaw24_BatchTurned : F_warehouselaw24_BatchTurned Try.prog := ⟨7, i_warehouselaw24_known, i_warehouselaw24_file, i_batch_Encode, i_warehouseworld_Place, i_batch_Decode, i_warehouseref24_Decode, i_warehouseref24_SameFile, ⟨Try.f7, Try.f7.body.getD .skip, Try.func7, by kernel_rfl, by kernel_rfl, by kernel_rfl, by kernel_rfl, by kernel_rfl⟩⟩

theorem lifted (os : Os) (started : os.Started) (H : Type) (enc : TypeId × Value → H) :
    ReturnsInHanded {} Try.checked os 7 .any (Rows.batchTurnedSpec.pre6 enc Try.prog Try.f7 Rows.batchTurnedRow.domain false) (Rows.batchTurnedSpec.post enc Try.prog Try.f7 false true false false) := by
  refine lifted_of_law (C := Try.checked) (n := 7) (tb := 4) (shs := [(false, [.slice [.int .i64]]), (false, [.int .i64]), (false, [.int .i64]), (false, [.int .u8]), (false, [.int .i64]), (false, [.int .u8])]) own started (by kernel_rfl) Try.func7
    (ChangeSpec.witness6 (enc := enc) (C := Try.checked) false ⟨#[], #[.slice none 0 0, .int .i64 0, .int .i64 0, .int .u8 0, .int .i64 0, .int .u8 0], []⟩ 8 (by kernel_rfl) (by kernel_rfl) (by kernel_rfl) (by kernel_rfl))
    laidOut (by kernel_rfl) (fun ds hd => ?_) rfl (by kernel_rfl) Try.underlying4 (by kernel_rfl) i_warehouselaw24_BatchTurned.has ?_
  · have hd : ds.length = 6 := hd.trans (by kernel_rfl)
    obtain ⟨d0, d1, d2, d3, d4, d5, rfl⟩ : ∃ d0 d1 d2 d3 d4 d5, ds = [d0, d1, d2, d3, d4, d5] := by
      match ds, hd with
      | [d0, d1, d2, d3, d4, d5], _ => exact ⟨d0, d1, d2, d3, d4, d5, rfl⟩
    rfl
  · intro xs h
    obtain ⟨y0, xs, rfl, p0, h⟩ := argsOk_cons h
    obtain ⟨y1, xs, rfl, p1, h⟩ := argsOk_cons h
    obtain ⟨y2, xs, rfl, p2, h⟩ := argsOk_cons h
    obtain ⟨y3, xs, rfl, p3, h⟩ := argsOk_cons h
    obtain ⟨y4, xs, rfl, p4, h⟩ := argsOk_cons h
    obtain ⟨y5, xs, rfl, p5, h⟩ := argsOk_cons h
    cases argsOk_nil h
    obtain ⟨x0, rfl, h0a, h0b⟩ := argOk_ints p0
    obtain ⟨x1, rfl, h1a⟩ := argOk_int p1
    obtain ⟨x2, rfl, h2a⟩ := argOk_int p2
    obtain ⟨x3, rfl, h3a⟩ := argOk_int p3
    obtain ⟨x4, rfl, h4a⟩ := argOk_int p4
    obtain ⟨x5, rfl, h5a⟩ := argOk_int p5
    first
      | exact law_BatchTurned i_warehouselaw24_BatchTurned x0 x1 x2 x3 x4 x5
      | exact law_BatchTurned i_warehouselaw24_BatchTurned x0 x1 x2 x3 x4 x5 h0a h0b h1a h2a h3a h4a h5a

theorem over : Rows.batchTurnedRow.holds Try.pinned (OpenSpec.ofChange Rows.batchTurnedSpec) :=
  OpenClaim.holds_of_wide 7 Try.f7 rfl rfl rfl rfl rfl rfl rfl ⟨rfl, rfl, rfl, rfl, rfl⟩ rfl rfl rfl rfl rfl (by kernel_rfl) Try.func7 (by kernel_rfl)
    (of_decide_eq_true (by kernel_rfl)) (by unfold Func.isWrapper; first | (rw [if_pos (by decide +kernel)]; kernel_rfl) | (rw [if_neg (by decide +kernel)]; exact ⟨rfl, rfl⟩))
    (fun os started H enc _ => lifted os started H enc)

theorem proved : Rows.BatchTurnedSaid := over
#print axioms proved
end Go.Proofs.Ytiigcfeklofcaaa.batchTurned
