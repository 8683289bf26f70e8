/-
  The law AggregateAdds holds for every input.
  No condition.
-/
import Derived.Test.YtmomepfdfmjceaaRows
import Derived.Test.YtmomepfdfmjceaaZ5
import Derived.KernelRfl
import Derived.ProofKit
import Derived.WalkKit
namespace Go.Proofs.Ytmomepfdfmjceaa.aggregateAdds
open Go.AW Go.ChangeShapes Go.WideShapes Go.ChangeAt Go.RowKit
set_option linter.unusedVariables false
set_option maxRecDepth 100000

theorem own : ownKnob Try.prog.godebug = none := by kernel_rfl
theorem laidOut : laidOutB Try.prog = true := by kernel_rfl

noncomputable def i_warehouselaw17_light : F_warehouselaw17_light Try.prog := ⟨9, ⟨Try.f9, Try.f9.body.getD .skip, Try.func9, by kernel_rfl, by kernel_rfl, by kernel_rfl, by kernel_rfl, by kernel_rfl⟩⟩
noncomputable def i_warehouselaw17_number : F_warehouselaw17_number Try.prog := ⟨24, ⟨Try.f24, Try.f24.body.getD .skip, Try.func24, by kernel_rfl, by kernel_rfl, by kernel_rfl, by kernel_rfl, by kernel_rfl⟩⟩
noncomputable def i_aggregate_rows : F_aggregate_rows Try.prog := ⟨30, ⟨Try.f30, Try.f30.body.getD .skip, Try.func30, by kernel_rfl, by kernel_rfl, by kernel_rfl, by kernel_rfl, by kernel_rfl⟩⟩
noncomputable def i_value_Valid : F_value_Valid Try.prog := ⟨25, ⟨Try.f25, Try.f25.body.getD .skip, Try.func25, by kernel_rfl, by kernel_rfl, by kernel_rfl, by kernel_rfl, by kernel_rfl⟩⟩
noncomputable def i_bag_formed : F_bag_formed Try.prog := ⟨50, i_value_Valid, ⟨Try.f50, Try.f50.body.getD .skip, Try.func50, by kernel_rfl, by kernel_rfl, by kernel_rfl, by kernel_rfl, by kernel_rfl⟩⟩
noncomputable def i_slices_CompareFunc_LValue_Value : F_slices_CompareFunc_LValue_Value Try.prog := ⟨60, ⟨Try.f60, Try.f60.body.getD .skip, Try.func60, by kernel_rfl, by kernel_rfl, by kernel_rfl, by kernel_rfl, by kernel_rfl⟩⟩
noncomputable def i_cmp_isNaN_int : F_cmp_isNaN_int Try.prog := ⟨69, ⟨Try.f69, Try.f69.body.getD .skip, Try.func69, by kernel_rfl, by kernel_rfl, by kernel_rfl, by kernel_rfl, by kernel_rfl⟩⟩
noncomputable def i_cmp_Compare_int : F_cmp_Compare_int Try.prog := ⟨66, i_cmp_isNaN_int, ⟨Try.f66, Try.f66.body.getD .skip, Try.func66, by kernel_rfl, by kernel_rfl, by kernel_rfl, by kernel_rfl, by kernel_rfl⟩⟩
noncomputable def i_cmp_isNaN_string : F_cmp_isNaN_string Try.prog := ⟨70, ⟨Try.f70, Try.f70.body.getD .skip, Try.func70, by kernel_rfl, by kernel_rfl, by kernel_rfl, by kernel_rfl, by kernel_rfl⟩⟩
noncomputable def i_cmp_Compare_string : F_cmp_Compare_string Try.prog := ⟨67, i_cmp_isNaN_string, ⟨Try.f67, Try.f67.body.getD .skip, Try.func67, by kernel_rfl, by kernel_rfl, by kernel_rfl, by kernel_rfl, by kernel_rfl⟩⟩
noncomputable def i_cmp_Or_int : F_cmp_Or_int Try.prog := ⟨65, ⟨Try.f65, Try.f65.body.getD .skip, Try.func65, by kernel_rfl, by kernel_rfl, by kernel_rfl, by kernel_rfl, by kernel_rfl⟩⟩
noncomputable def i_value_Compare : F_value_Compare Try.prog := ⟨61, i_cmp_Compare_int, i_cmp_Compare_string, i_cmp_Or_int, ⟨Try.f61, Try.f61.body.getD .skip, Try.func61, by kernel_rfl, by kernel_rfl, by kernel_rfl, by kernel_rfl, by kernel_rfl⟩⟩
noncomputable def i_value_CompareRows : F_value_CompareRows Try.prog := ⟨51, i_slices_CompareFunc_LValue_Value, i_value_Compare, ⟨Try.f51, Try.f51.body.getD .skip, Try.func51, by kernel_rfl, by kernel_rfl, by kernel_rfl, by kernel_rfl, by kernel_rfl⟩⟩
noncomputable def i_bag_Validate : F_bag_Validate Try.prog := ⟨31, i_bag_formed, i_value_CompareRows, ⟨Try.f31, Try.f31.body.getD .skip, Try.func31, by kernel_rfl, by kernel_rfl, by kernel_rfl, by kernel_rfl, by kernel_rfl⟩⟩
noncomputable def i_aggregate_Validate : F_aggregate_Validate Try.prog := ⟨14, i_aggregate_rows, i_bag_Validate, ⟨Try.f14, Try.f14.body.getD .skip, Try.func14, by kernel_rfl, by kernel_rfl, by kernel_rfl, by kernel_rfl, by kernel_rfl⟩⟩
noncomputable def i_bag_both : F_bag_both Try.prog := ⟨55, i_bag_Validate, ⟨Try.f55, Try.f55.body.getD .skip, Try.func55, by kernel_rfl, by kernel_rfl, by kernel_rfl, by kernel_rfl, by kernel_rfl⟩⟩
noncomputable def i_slices_Clone_LValue_Value : F_slices_Clone_LValue_Value Try.prog := ⟨68, ⟨Try.f68, Try.f68.body.getD .skip, Try.func68, by kernel_rfl, by kernel_rfl, by kernel_rfl, by kernel_rfl, by kernel_rfl⟩⟩
noncomputable def i_bag_put : F_bag_put Try.prog := ⟨63, i_slices_Clone_LValue_Value, ⟨Try.f63, Try.f63.body.getD .skip, Try.func63, by kernel_rfl, by kernel_rfl, by kernel_rfl, by kernel_rfl, by kernel_rfl⟩⟩
noncomputable def i_bag_done : F_bag_done Try.prog := ⟨64, ⟨Try.f64, Try.f64.body.getD .skip, Try.func64, by kernel_rfl, by kernel_rfl, by kernel_rfl, by kernel_rfl, by kernel_rfl⟩⟩
noncomputable def i_bag_merge : F_bag_merge Try.prog := ⟨56, i_value_CompareRows, i_bag_put, i_bag_done, ⟨Try.f56, Try.f56.body.getD .skip, Try.func56, by kernel_rfl, by kernel_rfl, by kernel_rfl, by kernel_rfl, by kernel_rfl⟩⟩
noncomputable def i_bag_Add : F_bag_Add Try.prog := ⟨48, i_bag_both, i_bag_merge, ⟨Try.f48, Try.f48.body.getD .skip, Try.func48, by kernel_rfl, by kernel_rfl, by kernel_rfl, by kernel_rfl, by kernel_rfl⟩⟩
noncomputable def i_aggregate_merge : F_aggregate_merge Try.prog := ⟨26, i_aggregate_rows, i_bag_Add, ⟨Try.f26, Try.f26.body.getD .skip, Try.func26, by kernel_rfl, by kernel_rfl, by kernel_rfl, by kernel_rfl, by kernel_rfl⟩⟩
noncomputable def i_aggregate_Add : F_aggregate_Add Try.prog := ⟨11, i_aggregate_Validate, i_value_Valid, i_aggregate_merge, ⟨Try.f11, Try.f11.body.getD .skip, Try.func11, by kernel_rfl, by kernel_rfl, by kernel_rfl, by kernel_rfl, by kernel_rfl⟩⟩
noncomputable def i_aggregate_totals : F_aggregate_totals Try.prog := ⟨35, ⟨Try.f35, Try.f35.body.getD .skip, Try.func35, by kernel_rfl, by kernel_rfl, by kernel_rfl, by kernel_rfl, by kernel_rfl⟩⟩
noncomputable def i_aggregate_integer : F_aggregate_integer Try.prog := ⟨36, ⟨Try.f36, Try.f36.body.getD .skip, Try.func36, by kernel_rfl, by kernel_rfl, by kernel_rfl, by kernel_rfl, by kernel_rfl⟩⟩
noncomputable def i_aggregate_positive : F_aggregate_positive Try.prog := ⟨37, ⟨Try.f37, Try.f37.body.getD .skip, Try.func37, by kernel_rfl, by kernel_rfl, by kernel_rfl, by kernel_rfl, by kernel_rfl⟩⟩
noncomputable def i_slices_Clone_LEntry_Entry : F_slices_Clone_LEntry_Entry Try.prog := ⟨38, ⟨Try.f38, Try.f38.body.getD .skip, Try.func38, by kernel_rfl, by kernel_rfl, by kernel_rfl, by kernel_rfl, by kernel_rfl⟩⟩
noncomputable def i_slices_Reverse_LEntry_Entry : F_slices_Reverse_LEntry_Entry Try.prog := ⟨39, ⟨Try.f39, Try.f39.body.getD .skip, Try.func39, by kernel_rfl, by kernel_rfl, by kernel_rfl, by kernel_rfl, by kernel_rfl⟩⟩
noncomputable def i_slices_IndexFunc_LEntry_Entry : F_slices_IndexFunc_LEntry_Entry Try.prog := ⟨40, ⟨Try.f40, Try.f40.body.getD .skip, Try.func40, by kernel_rfl, by kernel_rfl, by kernel_rfl, by kernel_rfl, by kernel_rfl⟩⟩
noncomputable def i_slices_ContainsFunc_LEntry_Entry : F_slices_ContainsFunc_LEntry_Entry Try.prog := ⟨41, i_slices_IndexFunc_LEntry_Entry, ⟨Try.f41, Try.f41.body.getD .skip, Try.func41, by kernel_rfl, by kernel_rfl, by kernel_rfl, by kernel_rfl, by kernel_rfl⟩⟩
noncomputable def i_aggregate_Result_1 : F_aggregate_Result_1 Try.prog := ⟨42, ⟨Try.f42, Try.f42.body.getD .skip, Try.func42, by kernel_rfl, by kernel_rfl, by kernel_rfl, by kernel_rfl, by kernel_rfl⟩⟩
noncomputable def i_aggregate_Result : F_aggregate_Result Try.prog := ⟨17, i_aggregate_Validate, i_aggregate_totals, i_aggregate_integer, i_aggregate_positive, i_slices_Clone_LEntry_Entry, i_slices_Reverse_LEntry_Entry, i_slices_IndexFunc_LEntry_Entry, i_slices_ContainsFunc_LEntry_Entry, i_aggregate_Result_1, ⟨Try.f17, Try.f17.body.getD .skip, Try.func17, by kernel_rfl, by kernel_rfl, by kernel_rfl, by kernel_rfl, by kernel_rfl⟩⟩
noncomputable def i_warehouselaw17_known : F_warehouselaw17_known Try.prog := ⟨10, i_warehouselaw17_number, i_aggregate_Add, i_aggregate_Result, ⟨Try.f10, Try.f10.body.getD .skip, Try.func10, by kernel_rfl, by kernel_rfl, by kernel_rfl, by kernel_rfl, by kernel_rfl⟩⟩
noncomputable def i_warehouseref6_small : F_warehouseref6_small Try.prog := ⟨62, ⟨Try.f62, Try.f62.body.getD .skip, Try.func62, by kernel_rfl, by kernel_rfl, by kernel_rfl, by kernel_rfl, by kernel_rfl⟩⟩
noncomputable def i_warehouseref1_Valid : F_warehouseref1_Valid Try.prog := ⟨27, ⟨Try.f27, Try.f27.body.getD .skip, Try.func27, by kernel_rfl, by kernel_rfl, by kernel_rfl, by kernel_rfl, by kernel_rfl⟩⟩
noncomputable def i_warehouseref6_fits : F_warehouseref6_fits Try.prog := ⟨52, i_warehouseref6_small, i_warehouseref1_Valid, ⟨Try.f52, Try.f52.body.getD .skip, Try.func52, by kernel_rfl, by kernel_rfl, by kernel_rfl, by kernel_rfl, by kernel_rfl⟩⟩
noncomputable def i_warehouseref1_numbers : F_warehouseref1_numbers Try.prog := ⟨47, ⟨Try.f47, Try.f47.body.getD .skip, Try.func47, by kernel_rfl, by kernel_rfl, by kernel_rfl, by kernel_rfl, by kernel_rfl⟩⟩
noncomputable def i_warehouseref1_Compare : F_warehouseref1_Compare Try.prog := ⟨21, i_warehouseref1_numbers, ⟨Try.f21, Try.f21.body.getD .skip, Try.func21, by kernel_rfl, by kernel_rfl, by kernel_rfl, by kernel_rfl, by kernel_rfl⟩⟩
noncomputable def i_warehouseref1_CompareRows : F_warehouseref1_CompareRows Try.prog := ⟨53, i_warehouseref1_Compare, i_warehouseref1_numbers, ⟨Try.f53, Try.f53.body.getD .skip, Try.func53, by kernel_rfl, by kernel_rfl, by kernel_rfl, by kernel_rfl, by kernel_rfl⟩⟩
noncomputable def i_warehouseref6_Validate : F_warehouseref6_Validate Try.prog := ⟨32, i_warehouseref6_fits, i_warehouseref1_CompareRows, ⟨Try.f32, Try.f32.body.getD .skip, Try.func32, by kernel_rfl, by kernel_rfl, by kernel_rfl, by kernel_rfl, by kernel_rfl⟩⟩
noncomputable def i_warehouseref17_Validate : F_warehouseref17_Validate Try.prog := ⟨15, i_warehouseref6_Validate, ⟨Try.f15, Try.f15.body.getD .skip, Try.func15, by kernel_rfl, by kernel_rfl, by kernel_rfl, by kernel_rfl, by kernel_rfl⟩⟩
noncomputable def i_warehouseref6_two : F_warehouseref6_two Try.prog := ⟨57, i_warehouseref6_Validate, ⟨Try.f57, Try.f57.body.getD .skip, Try.func57, by kernel_rfl, by kernel_rfl, by kernel_rfl, by kernel_rfl, by kernel_rfl⟩⟩
noncomputable def i_warehouseref6_merge : F_warehouseref6_merge Try.prog := ⟨59, i_warehouseref1_CompareRows, ⟨Try.f59, Try.f59.body.getD .skip, Try.func59, by kernel_rfl, by kernel_rfl, by kernel_rfl, by kernel_rfl, by kernel_rfl⟩⟩
noncomputable def i_warehouseref6_result : F_warehouseref6_result Try.prog := ⟨58, i_warehouseref6_small, ⟨Try.f58, Try.f58.body.getD .skip, Try.func58, by kernel_rfl, by kernel_rfl, by kernel_rfl, by kernel_rfl, by kernel_rfl⟩⟩
noncomputable def i_warehouseref6_Add : F_warehouseref6_Add Try.prog := ⟨49, i_warehouseref6_two, i_warehouseref6_merge, i_warehouseref6_result, ⟨Try.f49, Try.f49.body.getD .skip, Try.func49, by kernel_rfl, by kernel_rfl, by kernel_rfl, by kernel_rfl, by kernel_rfl⟩⟩
noncomputable def i_warehouseref17_plus : F_warehouseref17_plus Try.prog := ⟨28, i_warehouseref6_Add, ⟨Try.f28, Try.f28.body.getD .skip, Try.func28, by kernel_rfl, by kernel_rfl, by kernel_rfl, by kernel_rfl, by kernel_rfl⟩⟩
noncomputable def i_warehouseref17_Add : F_warehouseref17_Add Try.prog := ⟨12, i_warehouseref17_Validate, i_warehouseref1_Valid, i_warehouseref17_plus, ⟨Try.f12, Try.f12.body.getD .skip, Try.func12, by kernel_rfl, by kernel_rfl, by kernel_rfl, by kernel_rfl, by kernel_rfl⟩⟩
noncomputable def i_warehouseref1_SameRow : F_warehouseref1_SameRow Try.prog := ⟨46, i_warehouseref1_CompareRows, ⟨Try.f46, Try.f46.body.getD .skip, Try.func46, by kernel_rfl, by kernel_rfl, by kernel_rfl, by kernel_rfl, by kernel_rfl⟩⟩
noncomputable def i_warehouseref6_Same : F_warehouseref6_Same Try.prog := ⟨29, i_warehouseref1_SameRow, ⟨Try.f29, Try.f29.body.getD .skip, Try.func29, by kernel_rfl, by kernel_rfl, by kernel_rfl, by kernel_rfl, by kernel_rfl⟩⟩
noncomputable def i_warehouseref17_Same : F_warehouseref17_Same Try.prog := ⟨13, i_warehouseref6_Same, ⟨Try.f13, Try.f13.body.getD .skip, Try.func13, by kernel_rfl, by kernel_rfl, by kernel_rfl, by kernel_rfl, by kernel_rfl⟩⟩
noncomputable def i_warehousebase_At : F_warehousebase_At Try.prog := ⟨33, ⟨Try.f33, Try.f33.body.getD .skip, Try.func33, by kernel_rfl, by kernel_rfl, by kernel_rfl, by kernel_rfl, by kernel_rfl⟩⟩
noncomputable def i_warehousebase_Moment : F_warehousebase_Moment Try.prog := ⟨54, ⟨Try.f54, Try.f54.body.getD .skip, Try.func54, by kernel_rfl, by kernel_rfl, by kernel_rfl, by kernel_rfl, by kernel_rfl⟩⟩
noncomputable def i_warehousebase_Value : F_warehousebase_Value Try.prog := ⟨34, i_warehousebase_Moment, ⟨Try.f34, Try.f34.body.getD .skip, Try.func34, by kernel_rfl, by kernel_rfl, by kernel_rfl, by kernel_rfl, by kernel_rfl⟩⟩
noncomputable def i_warehouselaw17_items : F_warehouselaw17_items Try.prog := ⟨16, i_warehousebase_At, i_warehousebase_Value, ⟨Try.f16, Try.f16.body.getD .skip, Try.func16, by kernel_rfl, by kernel_rfl, by kernel_rfl, by kernel_rfl, by kernel_rfl⟩⟩
noncomputable def i_warehouselaw17_AggregateAdds : F_warehouselaw17_AggregateAdds Try.prog := ⟨3, i_warehouselaw17_light, i_warehouselaw17_known, i_aggregate_Add, i_warehouseref17_Add, i_warehouseref17_Same, i_aggregate_Validate, i_warehouseref17_Validate, i_warehouselaw17_items, ⟨Try.f3, Try.f3.body.getD .skip, Try.func3, by kernel_rfl, by kernel_rfl, by kernel_rfl, by kernel_rfl, by kernel_rfl⟩⟩

theorem lifted (os : Os) (started : os.Started) (H : Type) (enc : TypeId × Value → H) :
    ReturnsInHanded {} Try.checked os 3 .any (Rows.aggregateAddsSpec.pre6 enc Try.prog Try.f3 Rows.aggregateAddsRow.domain false) (Rows.aggregateAddsSpec.post enc Try.prog Try.f3 false true false false) := by
  refine lifted_of_law (C := Try.checked) (n := 7) (tb := 4) (shs := [(true, [.int .i64, .slice [.slice [.int .i64, .int .i64, .str], .int .i64]]), (true, [.int .i64, .int .i64, .str]), (false, [.int .i64]), (false, [.slice [.int .i64]]), (false, [.int .i64])]) own started (by kernel_rfl) Try.func3
    (ChangeSpec.witness6 (enc := enc) (C := Try.checked) false ⟨#[], #[.agg #[.int .i64 0, .slice none 0 0], .agg #[.int .i64 0, .int .i64 0, .string ⟨#[]⟩], .int .i64 0, .slice none 0 0, .int .i64 0], []⟩ 8 (by kernel_rfl) (by kernel_rfl) (by kernel_rfl) (by kernel_rfl))
    laidOut (by kernel_rfl) (fun ds hd => ?_) rfl (by kernel_rfl) Try.underlying4 (by kernel_rfl) i_warehouselaw17_AggregateAdds.has ?_
  · have hd : ds.length = 5 := hd.trans (by kernel_rfl)
    obtain ⟨d0, d1, d2, d3, d4, rfl⟩ : ∃ d0 d1 d2 d3 d4, ds = [d0, d1, d2, d3, d4] := by
      match ds, hd with
      | [d0, d1, d2, d3, d4], _ => exact ⟨d0, d1, d2, d3, d4, rfl⟩
    rfl
  · intro xs h
    obtain ⟨y0, xs, rfl, p0, h⟩ := argsOk_cons h
    obtain ⟨y1, xs, rfl, p1, h⟩ := argsOk_cons h
    obtain ⟨y2, xs, rfl, p2, h⟩ := argsOk_cons h
    obtain ⟨y3, xs, rfl, p3, h⟩ := argsOk_cons h
    obtain ⟨y4, xs, rfl, p4, h⟩ := argsOk_cons h
    cases argsOk_nil h
    obtain ⟨x0, rfl, h0a⟩ := argOk_grp p0
    obtain ⟨x1, rfl, h1a⟩ := argOk_V p1
    obtain ⟨x2, rfl, h2a⟩ := argOk_int p2
    obtain ⟨x3, rfl, h3a, h3b⟩ := argOk_ints p3
    obtain ⟨x4, rfl, h4a⟩ := argOk_int p4
    first
      | exact law_AggregateAdds i_warehouselaw17_AggregateAdds x0 x1 x2 x3 x4
      | exact law_AggregateAdds i_warehouselaw17_AggregateAdds x0 x1 x2 x3 x4 h0a h1a h2a h3a h3b h4a

theorem over : Rows.aggregateAddsRow.holds Try.pinned (OpenSpec.ofChange Rows.aggregateAddsSpec) :=
  OpenClaim.holds_of_wide 3 Try.f3 rfl rfl rfl rfl rfl rfl rfl ⟨rfl, rfl, rfl, rfl, rfl⟩ rfl rfl rfl rfl rfl (by kernel_rfl) Try.func3 (by kernel_rfl)
    (of_decide_eq_true (by kernel_rfl)) (by unfold Func.isWrapper; first | (rw [if_pos (by decide +kernel)]; kernel_rfl) | (rw [if_neg (by decide +kernel)]; exact ⟨rfl, rfl⟩))
    (fun os started H enc _ => lifted os started H enc)

theorem proved : Rows.AggregateAddsSaid := over
#print axioms proved
end Go.Proofs.Ytmomepfdfmjceaa.aggregateAdds
