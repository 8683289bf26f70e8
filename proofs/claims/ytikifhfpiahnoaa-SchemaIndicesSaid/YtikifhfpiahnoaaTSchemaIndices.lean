/-
  The law SchemaIndices holds for every input.
  No condition.
-/
import Derived.Test.YtikifhfpiahnoaaRows
import Derived.Test.YtikifhfpiahnoaaWhIdx
import Derived.KernelRfl
import Derived.ProofKit
import Derived.WalkKit
namespace Go.Proofs.Ytikifhfpiahnoaa.schemaIndices
open Go.AW Go.ChangeShapes Go.WideShapes Go.ChangeAt Go.RowKit
set_option linter.unusedVariables false
set_option maxRecDepth 100000

theorem own : ownKnob Try.prog.godebug = none := by kernel_rfl
theorem laidOut : laidOutB Try.prog = true := by kernel_rfl

noncomputable def i_schema_IsName : F_schema_IsName Try.prog := ⟨35, ⟨Try.f35, Try.f35.body.getD .skip, Try.func35, by kernel_rfl, by kernel_rfl, by kernel_rfl, by kernel_rfl, by kernel_rfl⟩⟩
noncomputable def i_bytealg_IndexByteString : F_bytealg_IndexByteString Try.prog := ⟨92, ⟨Try.f92, Try.func92, by kernel_rfl, by kernel_rfl, by kernel_rfl, by kernel_rfl⟩⟩
noncomputable def i_stringslite_IndexByte : F_stringslite_IndexByte Try.prog := ⟨88, i_bytealg_IndexByteString, ⟨Try.f88, Try.f88.body.getD .skip, Try.func88, by kernel_rfl, by kernel_rfl, by kernel_rfl, by kernel_rfl, by kernel_rfl⟩⟩
noncomputable def i_bytealg_hashStr_string : F_bytealg_hashStr_string Try.prog := ⟨93, ⟨Try.f93, Try.f93.body.getD .skip, Try.func93, by kernel_rfl, by kernel_rfl, by kernel_rfl, by kernel_rfl, by kernel_rfl⟩⟩
noncomputable def i_bytealg_IndexRabinKarp_string : F_bytealg_IndexRabinKarp_string Try.prog := ⟨91, i_bytealg_hashStr_string, ⟨Try.f91, Try.f91.body.getD .skip, Try.func91, by kernel_rfl, by kernel_rfl, by kernel_rfl, by kernel_rfl, by kernel_rfl⟩⟩
noncomputable def i_stringslite_Index : F_stringslite_Index Try.prog := ⟨87, i_stringslite_IndexByte, 89, i_bytealg_IndexRabinKarp_string, ⟨Try.f87, Try.f87.body.getD .skip, Try.func87, by kernel_rfl, by kernel_rfl, by kernel_rfl, by kernel_rfl, by kernel_rfl⟩⟩
noncomputable def i_stringslite_Cut : F_stringslite_Cut Try.prog := ⟨85, i_stringslite_Index, ⟨Try.f85, Try.f85.body.getD .skip, Try.func85, by kernel_rfl, by kernel_rfl, by kernel_rfl, by kernel_rfl, by kernel_rfl⟩⟩
noncomputable def i_strings_Cut : F_strings_Cut Try.prog := ⟨69, i_stringslite_Cut, ⟨Try.f69, Try.f69.body.getD .skip, Try.func69, by kernel_rfl, by kernel_rfl, by kernel_rfl, by kernel_rfl, by kernel_rfl⟩⟩
noncomputable def i_schema_IsQualified : F_schema_IsQualified Try.prog := ⟨37, i_strings_Cut, i_schema_IsName, ⟨Try.f37, Try.f37.body.getD .skip, Try.func37, by kernel_rfl, by kernel_rfl, by kernel_rfl, by kernel_rfl, by kernel_rfl⟩⟩
noncomputable def i_value_Valid : F_value_Valid Try.prog := ⟨18, ⟨Try.f18, Try.f18.body.getD .skip, Try.func18, by kernel_rfl, by kernel_rfl, by kernel_rfl, by kernel_rfl, by kernel_rfl⟩⟩
noncomputable def i_schema_CheckRow : F_schema_CheckRow Try.prog := ⟨43, i_value_Valid, ⟨Try.f43, Try.f43.body.getD .skip, Try.func43, by kernel_rfl, by kernel_rfl, by kernel_rfl, by kernel_rfl, by kernel_rfl⟩⟩
noncomputable def i_schema_Index_1 : F_schema_Index_1 Try.prog := ⟨71, ⟨Try.f71, Try.f71.body.getD .skip, Try.func71, by kernel_rfl, by kernel_rfl, by kernel_rfl, by kernel_rfl, by kernel_rfl⟩⟩
noncomputable def i_slices_IndexFunc_LColumn_Column : F_slices_IndexFunc_LColumn_Column Try.prog := ⟨70, ⟨Try.f70, Try.f70.body.getD .skip, Try.func70, by kernel_rfl, by kernel_rfl, by kernel_rfl, by kernel_rfl, by kernel_rfl⟩⟩
noncomputable def i_schema_Index : F_schema_Index Try.prog := ⟨40, i_schema_Index_1, i_slices_IndexFunc_LColumn_Column, ⟨Try.f40, Try.f40.body.getD .skip, Try.func40, by kernel_rfl, by kernel_rfl, by kernel_rfl, by kernel_rfl, by kernel_rfl⟩⟩
noncomputable def i_warehouselaw5_known : F_warehouselaw5_known Try.prog := ⟨34, i_schema_IsName, i_schema_IsQualified, i_schema_CheckRow, i_schema_Index, ⟨Try.f34, Try.f34.body.getD .skip, Try.func34, by kernel_rfl, by kernel_rfl, by kernel_rfl, by kernel_rfl, by kernel_rfl⟩⟩
noncomputable def i_warehousebase_At : F_warehousebase_At Try.prog := ⟨28, ⟨Try.f28, Try.f28.body.getD .skip, Try.func28, by kernel_rfl, by kernel_rfl, by kernel_rfl, by kernel_rfl, by kernel_rfl⟩⟩
noncomputable def i_warehousebase_Columns : F_warehousebase_Columns Try.prog := ⟨39, i_warehousebase_At, ⟨Try.f39, Try.f39.body.getD .skip, Try.func39, by kernel_rfl, by kernel_rfl, by kernel_rfl, by kernel_rfl, by kernel_rfl⟩⟩
noncomputable def i_slices_Index_Lstring_string : F_slices_Index_Lstring_string Try.prog := ⟨86, ⟨Try.f86, Try.f86.body.getD .skip, Try.func86, by kernel_rfl, by kernel_rfl, by kernel_rfl, by kernel_rfl, by kernel_rfl⟩⟩
noncomputable def i_slices_Contains_Lstring_string : F_slices_Contains_Lstring_string Try.prog := ⟨75, i_slices_Index_Lstring_string, ⟨Try.f75, Try.f75.body.getD .skip, Try.func75, by kernel_rfl, by kernel_rfl, by kernel_rfl, by kernel_rfl, by kernel_rfl⟩⟩
noncomputable def i_schema_Indices : F_schema_Indices Try.prog := ⟨52, i_schema_Index, i_slices_Contains_Lstring_string, ⟨Try.f52, Try.f52.body.getD .skip, Try.func52, by kernel_rfl, by kernel_rfl, by kernel_rfl, by kernel_rfl, by kernel_rfl⟩⟩
noncomputable def i_warehouseref5_Index : F_warehouseref5_Index Try.prog := ⟨41, ⟨Try.f41, Try.f41.body.getD .skip, Try.func41, by kernel_rfl, by kernel_rfl, by kernel_rfl, by kernel_rfl, by kernel_rfl⟩⟩
noncomputable def i_warehouseref5_Has : F_warehouseref5_Has Try.prog := ⟨76, ⟨Try.f76, Try.f76.body.getD .skip, Try.func76, by kernel_rfl, by kernel_rfl, by kernel_rfl, by kernel_rfl, by kernel_rfl⟩⟩
noncomputable def i_warehouseref5_Indices : F_warehouseref5_Indices Try.prog := ⟨53, i_warehouseref5_Index, i_warehouseref5_Has, ⟨Try.f53, Try.f53.body.getD .skip, Try.func53, by kernel_rfl, by kernel_rfl, by kernel_rfl, by kernel_rfl, by kernel_rfl⟩⟩
noncomputable def i_warehouselaw5_ints : F_warehouselaw5_ints Try.prog := ⟨54, ⟨Try.f54, Try.f54.body.getD .skip, Try.func54, by kernel_rfl, by kernel_rfl, by kernel_rfl, by kernel_rfl, by kernel_rfl⟩⟩
noncomputable def i_warehouselaw5_SchemaIndices : F_warehouselaw5_SchemaIndices Try.prog := ⟨15, i_warehouselaw5_known, i_warehousebase_Columns, i_warehousebase_At, i_schema_Indices, i_warehouseref5_Indices, i_warehouselaw5_ints, ⟨Try.f15, Try.f15.body.getD .skip, Try.func15, by kernel_rfl, by kernel_rfl, by kernel_rfl, by kernel_rfl, by kernel_rfl⟩⟩

theorem lifted (os : Os) (started : os.Started) (H : Type) (enc : TypeId × Value → H) :
    ReturnsInHanded {} Try.checked os 15 .any (Rows.schemaIndicesSpec.pre6 enc Try.prog Try.f15 Rows.schemaIndicesRow.domain false) (Rows.schemaIndicesSpec.post enc Try.prog Try.f15 false true false false) := by
  refine lifted_of_law (C := Try.checked) (n := 7) (tb := 4) (shs := [(false, [.slice [.str, .int .i64, .bool]]), (false, [.slice [.str]]), (false, [.slice [.int .i64]]), (false, [.int .i64])]) own started (by kernel_rfl) Try.func15
    (ChangeSpec.witness6 (enc := enc) (C := Try.checked) false ⟨#[], #[.slice none 0 0, .slice none 0 0, .slice none 0 0, .int .i64 0], []⟩ 8 (by kernel_rfl) (by kernel_rfl) (by kernel_rfl) (by kernel_rfl))
    laidOut (by kernel_rfl) (fun ds hd => ?_) rfl (by kernel_rfl) Try.underlying4 (by kernel_rfl) i_warehouselaw5_SchemaIndices.has ?_
  · have hd : ds.length = 4 := hd.trans (by kernel_rfl)
    obtain ⟨d0, d1, d2, d3, rfl⟩ : ∃ d0 d1 d2 d3, ds = [d0, d1, d2, d3] := by
      match ds, hd with
      | [d0, d1, d2, d3], _ => exact ⟨d0, d1, d2, d3, rfl⟩
    rfl
  · intro xs h
    obtain ⟨y0, xs, rfl, p0, h⟩ := argsOk_cons h
    obtain ⟨y1, xs, rfl, p1, h⟩ := argsOk_cons h
    obtain ⟨y2, xs, rfl, p2, h⟩ := argsOk_cons h
    obtain ⟨y3, xs, rfl, p3, h⟩ := argsOk_cons h
    cases argsOk_nil h
    obtain ⟨x0, rfl, h0a, h0b⟩ := argOk_cols p0
    obtain ⟨x1, rfl, h1a, h1b⟩ := argOk_strs p1
    obtain ⟨x2, rfl, h2a, h2b⟩ := argOk_ints p2
    obtain ⟨x3, rfl, h3a⟩ := argOk_int p3
    first
      | exact law_SchemaIndices i_warehouselaw5_SchemaIndices x0 x1 x2 x3
      | exact law_SchemaIndices i_warehouselaw5_SchemaIndices x0 x1 x2 x3 h0a h0b h1a h1b h2a h2b h3a

theorem over : Rows.schemaIndicesRow.holds Try.pinned (OpenSpec.ofChange Rows.schemaIndicesSpec) :=
  OpenClaim.holds_of_wide 15 Try.f15 rfl rfl rfl rfl rfl rfl rfl ⟨rfl, rfl, rfl, rfl, rfl⟩ rfl rfl rfl rfl rfl (by kernel_rfl) Try.func15 (by kernel_rfl)
    (of_decide_eq_true (by kernel_rfl)) (by unfold Func.isWrapper; first | (rw [if_pos (by decide +kernel)]; kernel_rfl) | (rw [if_neg (by decide +kernel)]; exact ⟨rfl, rfl⟩))
    (fun os started H enc _ => lifted os started H enc)

theorem proved : Rows.SchemaIndicesSaid := over
#print axioms proved
end Go.Proofs.Ytikifhfpiahnoaa.schemaIndices
