/-
  The law SchemaPicks holds for every input.
  No condition.
-/
import Derived.Test.YtikifhfpiahnoaaRows
import Derived.Test.YtikifhfpiahnoaaWhLaw5c
import Derived.KernelRfl
import Derived.ProofKit
import Derived.WalkKit
namespace Go.Proofs.Ytikifhfpiahnoaa.schemaPicks
open Go.AW Go.ChangeShapes Go.WideShapes Go.ChangeAt Go.RowKit
set_option linter.unusedVariables false
set_option maxRecDepth 100000

theorem own : ownKnob Try.prog.godebug = none := by kernel_rfl
theorem laidOut : laidOutB Try.prog = true := by kernel_rfl

noncomputable def i_schema_IsName : F_schema_IsName Try.prog := ⟨35, ⟨Try.f35, Try.f35.body.getD .skip, Try.func35, by kernel_rfl, by kernel_rfl, by kernel_rfl, by kernel_rfl, by kernel_rfl⟩⟩
noncomputable def i_bytealg_IndexByteString : F_bytealg_IndexByteString Try.prog := ⟨92, ⟨Try.f92, Try.func92, by kernel_rfl, by kernel_rfl, by kernel_rfl, by kernel_rfl⟩⟩
noncomputable def i_stringslite_IndexByte : F_stringslite_IndexByte Try.prog := ⟨88, i_bytealg_IndexByteString, ⟨Try.f88, Try.f88.body.getD .skip, Try.func88, by kernel_rfl, by kernel_rfl, by kernel_rfl, by kernel_rfl, by kernel_rfl⟩⟩
noncomputable def i_bytealg_hashStr_string : F_bytealg_hashStr_string Try.prog := ⟨93, ⟨Try.f93, Try.f93.body.getD .skip, Try.func93, by kernel_rfl, by kernel_rfl, by kernel_rfl, by kernel_rfl, by kernel_rfl⟩⟩
noncomputable def i_bytealg_IndexRabinKarp_string : F_bytealg_IndexRabinKarp_string Try.prog := ⟨91, i_bytealg_hashStr_string, ⟨Try.f91, Try.f91.body.getD .skip, Try.func91, by kernel_rfl, by kernel_rfl, by kernel_rfl, by kernel_rfl, by kernel_rfl⟩⟩
noncomputable def i_stringslite_Index : F_stringslite_Index Try.prog := ⟨87, i_stringslite_IndexByte, 89, i_bytealg_IndexRabinKarp_string, ⟨Try.f87, Try.f87.body.getD .skip, Try.func87, by kernel_rfl, by kernel_rfl, by kernel_rfl, by kernel_rfl, by kernel_rfl⟩⟩
noncomputable def i_stringslite_Cut : F_stringslite_Cut Try.prog := ⟨85, i_stringslite_Index, ⟨Try.f85, Try.f85.body.getD .skip, Try.func85, by kernel_rfl, by kernel_rfl, by kernel_rfl, by kernel_rfl, by kernel_rfl⟩⟩
noncomputable def i_strings_Cut : F_strings_Cut Try.prog := ⟨69, i_stringslite_Cut, ⟨Try.f69, Try.f69.body.getD .skip, Try.func69, by kernel_rfl, by kernel_rfl, by kernel_rfl, by kernel_rfl, by kernel_rfl⟩⟩
noncomputable def i_schema_IsQualified : F_schema_IsQualified Try.prog := ⟨37, i_strings_Cut, i_schema_IsName, ⟨Try.f37, Try.f37.body.getD .skip, Try.func37, by kernel_rfl, by kernel_rfl, by kernel_rfl, by kernel_rfl, by kernel_rfl⟩⟩
noncomputable def i_value_Valid : F_value_Valid Try.prog := ⟨18, ⟨Try.f18, Try.f18.body.getD .skip, Try.func18, by kernel_rfl, by kernel_rfl, by kernel_rfl, by kernel_rfl, by kernel_rfl⟩⟩
noncomputable def i_schema_CheckRow : F_schema_CheckRow Try.prog := ⟨43, i_value_Valid, ⟨Try.f43, Try.f43.body.getD .skip, Try.func43, by kernel_rfl, by kernel_rfl, by kernel_rfl, by kernel_rfl, by kernel_rfl⟩⟩
noncomputable def i_schema_Index_1 : F_schema_Index_1 Try.prog := ⟨71, ⟨Try.f71, Try.f71.body.getD .skip, Try.func71, by kernel_rfl, by kernel_rfl, by kernel_rfl, by kernel_rfl, by kernel_rfl⟩⟩
noncomputable def i_slices_IndexFunc_LColumn_Column : F_slices_IndexFunc_LColumn_Column Try.prog := ⟨70, ⟨Try.f70, Try.f70.body.getD .skip, Try.func70, by kernel_rfl, by kernel_rfl, by kernel_rfl, by kernel_rfl, by kernel_rfl⟩⟩
noncomputable def i_schema_Index : F_schema_Index Try.prog := ⟨40, i_schema_Index_1, i_slices_IndexFunc_LColumn_Column, ⟨Try.f40, Try.f40.body.getD .skip, Try.func40, by kernel_rfl, by kernel_rfl, by kernel_rfl, by kernel_rfl, by kernel_rfl⟩⟩
noncomputable def i_warehouselaw5_known : F_warehouselaw5_known Try.prog := ⟨34, i_schema_IsName, i_schema_IsQualified, i_schema_CheckRow, i_schema_Index, ⟨Try.f34, Try.f34.body.getD .skip, Try.func34, by kernel_rfl, by kernel_rfl, by kernel_rfl, by kernel_rfl, by kernel_rfl⟩⟩
noncomputable def i_schema_pick_Value : F_schema_pick_Value Try.prog := ⟨73, ⟨Try.f73, Try.f73.body.getD .skip, Try.func73, by kernel_rfl, by kernel_rfl, by kernel_rfl, by kernel_rfl, by kernel_rfl⟩⟩
noncomputable def i_schema_Pick : F_schema_Pick Try.prog := ⟨45, i_schema_pick_Value, ⟨Try.f45, Try.f45.body.getD .skip, Try.func45, by kernel_rfl, by kernel_rfl, by kernel_rfl, by kernel_rfl, by kernel_rfl⟩⟩
noncomputable def i_warehouseref5_Pick : F_warehouseref5_Pick Try.prog := ⟨46, ⟨Try.f46, Try.f46.body.getD .skip, Try.func46, by kernel_rfl, by kernel_rfl, by kernel_rfl, by kernel_rfl, by kernel_rfl⟩⟩
noncomputable def i_warehouseref1_numbers : F_warehouseref1_numbers Try.prog := ⟨63, ⟨Try.f63, Try.f63.body.getD .skip, Try.func63, by kernel_rfl, by kernel_rfl, by kernel_rfl, by kernel_rfl, by kernel_rfl⟩⟩
noncomputable def i_warehouseref1_Compare : F_warehouseref1_Compare Try.prog := ⟨22, i_warehouseref1_numbers, ⟨Try.f22, Try.f22.body.getD .skip, Try.func22, by kernel_rfl, by kernel_rfl, by kernel_rfl, by kernel_rfl, by kernel_rfl⟩⟩
noncomputable def i_warehouseref1_CompareRows : F_warehouseref1_CompareRows Try.prog := ⟨30, i_warehouseref1_Compare, i_warehouseref1_numbers, ⟨Try.f30, Try.f30.body.getD .skip, Try.func30, by kernel_rfl, by kernel_rfl, by kernel_rfl, by kernel_rfl, by kernel_rfl⟩⟩
noncomputable def i_warehouseref1_SameRow : F_warehouseref1_SameRow Try.prog := ⟨33, i_warehouseref1_CompareRows, ⟨Try.f33, Try.f33.body.getD .skip, Try.func33, by kernel_rfl, by kernel_rfl, by kernel_rfl, by kernel_rfl, by kernel_rfl⟩⟩
noncomputable def i_schema_pick_Column : F_schema_pick_Column Try.prog := ⟨74, ⟨Try.f74, Try.f74.body.getD .skip, Try.func74, by kernel_rfl, by kernel_rfl, by kernel_rfl, by kernel_rfl, by kernel_rfl⟩⟩
noncomputable def i_schema_Select : F_schema_Select Try.prog := ⟨48, i_schema_pick_Column, ⟨Try.f48, Try.f48.body.getD .skip, Try.func48, by kernel_rfl, by kernel_rfl, by kernel_rfl, by kernel_rfl, by kernel_rfl⟩⟩
noncomputable def i_warehouseref5_Select : F_warehouseref5_Select Try.prog := ⟨49, ⟨Try.f49, Try.f49.body.getD .skip, Try.func49, by kernel_rfl, by kernel_rfl, by kernel_rfl, by kernel_rfl, by kernel_rfl⟩⟩
noncomputable def i_warehouseref5_Equal : F_warehouseref5_Equal Try.prog := ⟨47, ⟨Try.f47, Try.f47.body.getD .skip, Try.func47, by kernel_rfl, by kernel_rfl, by kernel_rfl, by kernel_rfl, by kernel_rfl⟩⟩
noncomputable def i_warehouselaw5_SchemaPicks : F_warehouselaw5_SchemaPicks Try.prog := ⟨13, i_warehouselaw5_known, i_schema_Pick, i_warehouseref5_Pick, i_warehouseref1_SameRow, i_schema_Select, i_warehouseref5_Select, i_warehouseref5_Equal, ⟨Try.f13, Try.f13.body.getD .skip, Try.func13, by kernel_rfl, by kernel_rfl, by kernel_rfl, by kernel_rfl, by kernel_rfl⟩⟩

theorem lifted (os : Os) (started : os.Started) (H : Type) (enc : TypeId × Value → H) :
    ReturnsInHanded {} Try.checked os 13 .any (Rows.schemaPicksSpec.pre6 enc Try.prog Try.f13 Rows.schemaPicksRow.domain false) (Rows.schemaPicksSpec.post enc Try.prog Try.f13 false true false false) := by
  refine lifted_of_law (C := Try.checked) (n := 7) (tb := 4) (shs := [(false, [.slice [.int .i64, .int .i64, .str]]), (false, [.slice [.str, .int .i64, .bool]]), (false, [.slice [.int .i64]]), (false, [.slice [.int .i64]])]) own started (by kernel_rfl) Try.func13
    (ChangeSpec.witness6 (enc := enc) (C := Try.checked) false ⟨#[], #[.slice none 0 0, .slice none 0 0, .slice none 0 0, .slice none 0 0], []⟩ 8 (by kernel_rfl) (by kernel_rfl) (by kernel_rfl) (by kernel_rfl))
    laidOut (by kernel_rfl) (fun ds hd => ?_) rfl (by kernel_rfl) Try.underlying4 (by kernel_rfl) i_warehouselaw5_SchemaPicks.has ?_
  · have hd : ds.length = 4 := hd.trans (by kernel_rfl)
    obtain ⟨d0, d1, d2, d3, rfl⟩ : ∃ d0 d1 d2 d3, ds = [d0, d1, d2, d3] := by
      match ds, hd with
      | [d0, d1, d2, d3], _ => exact ⟨d0, d1, d2, d3, rfl⟩
    rfl
  · intro xs h
    obtain ⟨y0, xs, rfl, p0, h⟩ := argsOk_cons h
    obtain ⟨y1, xs, rfl, p1, h⟩ := argsOk_cons h
    obtain ⟨y2, xs, rfl, p2, h⟩ := argsOk_cons h
    obtain ⟨y3, xs, rfl, p3, h⟩ := argsOk_cons h
    cases argsOk_nil h
    obtain ⟨x0, rfl, h0a, h0b⟩ := argOk_row p0
    obtain ⟨x1, rfl, h1a, h1b⟩ := argOk_cols p1
    obtain ⟨x2, rfl, h2a, h2b⟩ := argOk_ints p2
    obtain ⟨x3, rfl, h3a, h3b⟩ := argOk_ints p3
    first
      | exact law_SchemaPicks i_warehouselaw5_SchemaPicks x0 x1 x2 x3
      | exact law_SchemaPicks i_warehouselaw5_SchemaPicks x0 x1 x2 x3 h0a h0b h1a h1b h2a h2b h3a h3b

theorem over : Rows.schemaPicksRow.holds Try.pinned (OpenSpec.ofChange Rows.schemaPicksSpec) :=
  OpenClaim.holds_of_wide 13 Try.f13 rfl rfl rfl rfl rfl rfl rfl ⟨rfl, rfl, rfl, rfl, rfl⟩ rfl rfl rfl rfl rfl (by kernel_rfl) Try.func13 (by kernel_rfl)
    (of_decide_eq_true (by kernel_rfl)) (by unfold Func.isWrapper; first | (rw [if_pos (by decide +kernel)]; kernel_rfl) | (rw [if_neg (by decide +kernel)]; exact ⟨rfl, rfl⟩))
    (fun os started H enc _ => lifted os started H enc)

theorem proved : Rows.SchemaPicksSaid := over
#print axioms proved
end Go.Proofs.Ytikifhfpiahnoaa.schemaPicks
