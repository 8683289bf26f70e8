/-
  The law WindowErrors holds for every input.
  No condition.
-/
import Derived.Test.YtgmobjimfalhoaaGreatRows
import Derived.Test.YtgmobjimfalhoaaGreatZ9
import Derived.KernelRfl
import Derived.ProofKit
import Derived.WalkKit
namespace Go.Proofs.YtgmobjimfalhoaaGreat.windowErrors
open Go.AW Go.ChangeShapes Go.WideShapes Go.ChangeAt Go.RowKit
set_option linter.unusedVariables false
set_option maxRecDepth 100000

instance theDraws : Draws := ⟨False⟩
theorem nodraw : ¬ Draws.up := fun h => h
theorem own : ownKnob Tryz.prog.godebug = none := by kernel_rfl
theorem laidOut : laidOutB Tryz.prog = true := by kernel_rfl

noncomputable def i_warehousebase_At : F_warehousebase_At Tryz.prog := ⟨26, ⟨Tryz.f26, Tryz.f26.body.getD .skip, Tryz.func26, by kernel_rfl, by kernel_rfl, by kernel_rfl, by kernel_rfl, by kernel_rfl⟩⟩
noncomputable def i_warehousebase_Moment : F_warehousebase_Moment Tryz.prog := ⟨93, ⟨Tryz.f93, Tryz.f93.body.getD .skip, Tryz.func93, by kernel_rfl, by kernel_rfl, by kernel_rfl, by kernel_rfl, by kernel_rfl⟩⟩
noncomputable def i_warehousebase_Value : F_warehousebase_Value Tryz.prog := ⟨75, i_warehousebase_Moment, ⟨Tryz.f75, Tryz.f75.body.getD .skip, Tryz.func75, by kernel_rfl, by kernel_rfl, by kernel_rfl, by kernel_rfl, by kernel_rfl⟩⟩
noncomputable def i_warehousebase_Cell : F_warehousebase_Cell Tryz.prog := ⟨52, i_warehousebase_Value, ⟨Tryz.f52, Tryz.f52.body.getD .skip, Tryz.func52, by kernel_rfl, by kernel_rfl, by kernel_rfl, by kernel_rfl, by kernel_rfl⟩⟩
noncomputable def i_warehousebase_Row : F_warehousebase_Row Tryz.prog := ⟨27, i_warehousebase_At, i_warehousebase_Cell, ⟨Tryz.f27, Tryz.f27.body.getD .skip, Tryz.func27, by kernel_rfl, by kernel_rfl, by kernel_rfl, by kernel_rfl, by kernel_rfl⟩⟩
noncomputable def i_warehouseref6_small : F_warehouseref6_small Tryz.prog := ⟨71, ⟨Tryz.f71, Tryz.f71.body.getD .skip, Tryz.func71, by kernel_rfl, by kernel_rfl, by kernel_rfl, by kernel_rfl, by kernel_rfl⟩⟩
noncomputable def i_warehouseref1_Valid : F_warehouseref1_Valid Tryz.prog := ⟨76, ⟨Tryz.f76, Tryz.f76.body.getD .skip, Tryz.func76, by kernel_rfl, by kernel_rfl, by kernel_rfl, by kernel_rfl, by kernel_rfl⟩⟩
noncomputable def i_warehouseref6_fits : F_warehouseref6_fits Tryz.prog := ⟨53, i_warehouseref6_small, i_warehouseref1_Valid, ⟨Tryz.f53, Tryz.f53.body.getD .skip, Tryz.func53, by kernel_rfl, by kernel_rfl, by kernel_rfl, by kernel_rfl, by kernel_rfl⟩⟩
noncomputable def i_warehouseref1_numbers : F_warehouseref1_numbers Tryz.prog := ⟨74, ⟨Tryz.f74, Tryz.f74.body.getD .skip, Tryz.func74, by kernel_rfl, by kernel_rfl, by kernel_rfl, by kernel_rfl, by kernel_rfl⟩⟩
noncomputable def i_warehouseref1_Compare : F_warehouseref1_Compare Tryz.prog := ⟨73, i_warehouseref1_numbers, ⟨Tryz.f73, Tryz.f73.body.getD .skip, Tryz.func73, by kernel_rfl, by kernel_rfl, by kernel_rfl, by kernel_rfl, by kernel_rfl⟩⟩
noncomputable def i_warehouseref1_CompareRows : F_warehouseref1_CompareRows Tryz.prog := ⟨51, i_warehouseref1_Compare, i_warehouseref1_numbers, ⟨Tryz.f51, Tryz.f51.body.getD .skip, Tryz.func51, by kernel_rfl, by kernel_rfl, by kernel_rfl, by kernel_rfl, by kernel_rfl⟩⟩
noncomputable def i_warehouseref6_merge : F_warehouseref6_merge Tryz.prog := ⟨72, i_warehouseref1_CompareRows, ⟨Tryz.f72, Tryz.f72.body.getD .skip, Tryz.func72, by kernel_rfl, by kernel_rfl, by kernel_rfl, by kernel_rfl, by kernel_rfl⟩⟩
noncomputable def i_warehouseref6_sorted : F_warehouseref6_sorted Tryz.prog := ⟨50, i_warehouseref6_merge, ⟨Tryz.f50, Tryz.f50.body.getD .skip, Tryz.func50, by kernel_rfl, by kernel_rfl, by kernel_rfl, by kernel_rfl, by kernel_rfl⟩⟩
noncomputable def i_warehouseref6_result : F_warehouseref6_result Tryz.prog := ⟨49, i_warehouseref6_small, ⟨Tryz.f49, Tryz.f49.body.getD .skip, Tryz.func49, by kernel_rfl, by kernel_rfl, by kernel_rfl, by kernel_rfl, by kernel_rfl⟩⟩
noncomputable def i_warehouseref6_Sum : F_warehouseref6_Sum Tryz.prog := ⟨24, i_warehouseref6_sorted, i_warehouseref6_result, ⟨Tryz.f24, Tryz.f24.body.getD .skip, Tryz.func24, by kernel_rfl, by kernel_rfl, by kernel_rfl, by kernel_rfl, by kernel_rfl⟩⟩
noncomputable def i_warehouseref6_Normalize : F_warehouseref6_Normalize Tryz.prog := ⟨28, i_warehouseref6_fits, i_warehouseref6_Sum, ⟨Tryz.f28, Tryz.f28.body.getD .skip, Tryz.func28, by kernel_rfl, by kernel_rfl, by kernel_rfl, by kernel_rfl, by kernel_rfl⟩⟩
noncomputable def i_warehousebase_Rows : F_warehousebase_Rows Tryz.prog := ⟨12, i_warehousebase_At, i_warehousebase_Row, i_warehouseref6_Normalize, ⟨Tryz.f12, Tryz.f12.body.getD .skip, Tryz.func12, by kernel_rfl, by kernel_rfl, by kernel_rfl, by kernel_rfl, by kernel_rfl⟩⟩
noncomputable def i_warehouselaw18_table : F_warehouselaw18_table Tryz.prog := ⟨5, i_warehousebase_Rows, ⟨Tryz.f5, Tryz.f5.body.getD .skip, Tryz.func5, by kernel_rfl, by kernel_rfl, by kernel_rfl, by kernel_rfl, by kernel_rfl⟩⟩
noncomputable def i_warehouselaw18_items : F_warehouselaw18_items Tryz.prog := ⟨6, ⟨Tryz.f6, Tryz.f6.body.getD .skip, Tryz.func6, by kernel_rfl, by kernel_rfl, by kernel_rfl, by kernel_rfl, by kernel_rfl⟩⟩
noncomputable def i_warehouselaw18_places : F_warehouselaw18_places Tryz.prog := ⟨8, ⟨Tryz.f8, Tryz.f8.body.getD .skip, Tryz.func8, by kernel_rfl, by kernel_rfl, by kernel_rfl, by kernel_rfl, by kernel_rfl⟩⟩
noncomputable def i_value_Valid : F_value_Valid Tryz.prog := ⟨63, ⟨Tryz.f63, Tryz.f63.body.getD .skip, Tryz.func63, by kernel_rfl, by kernel_rfl, by kernel_rfl, by kernel_rfl, by kernel_rfl⟩⟩
noncomputable def i_bag_formed : F_bag_formed Tryz.prog := ⟨39, i_value_Valid, ⟨Tryz.f39, Tryz.f39.body.getD .skip, Tryz.func39, by kernel_rfl, by kernel_rfl, by kernel_rfl, by kernel_rfl, by kernel_rfl⟩⟩
noncomputable def i_slices_CompareFunc_LValue_Value : F_slices_CompareFunc_LValue_Value Tryz.prog := ⟨61, ⟨Tryz.f61, Tryz.f61.body.getD .skip, Tryz.func61, by kernel_rfl, by kernel_rfl, by kernel_rfl, by kernel_rfl, by kernel_rfl⟩⟩
noncomputable def i_cmp_isNaN_int : F_cmp_isNaN_int Tryz.prog := ⟨99, ⟨Tryz.f99, Tryz.f99.body.getD .skip, Tryz.func99, by kernel_rfl, by kernel_rfl, by kernel_rfl, by kernel_rfl, by kernel_rfl⟩⟩
noncomputable def i_cmp_Compare_int : F_cmp_Compare_int Tryz.prog := ⟨90, i_cmp_isNaN_int, ⟨Tryz.f90, Tryz.f90.body.getD .skip, Tryz.func90, by kernel_rfl, by kernel_rfl, by kernel_rfl, by kernel_rfl, by kernel_rfl⟩⟩
noncomputable def i_cmp_isNaN_string : F_cmp_isNaN_string Tryz.prog := ⟨100, ⟨Tryz.f100, Tryz.f100.body.getD .skip, Tryz.func100, by kernel_rfl, by kernel_rfl, by kernel_rfl, by kernel_rfl, by kernel_rfl⟩⟩
noncomputable def i_cmp_Compare_string : F_cmp_Compare_string Tryz.prog := ⟨91, i_cmp_isNaN_string, ⟨Tryz.f91, Tryz.f91.body.getD .skip, Tryz.func91, by kernel_rfl, by kernel_rfl, by kernel_rfl, by kernel_rfl, by kernel_rfl⟩⟩
noncomputable def i_cmp_Or_int : F_cmp_Or_int Tryz.prog := ⟨89, ⟨Tryz.f89, Tryz.f89.body.getD .skip, Tryz.func89, by kernel_rfl, by kernel_rfl, by kernel_rfl, by kernel_rfl, by kernel_rfl⟩⟩
noncomputable def i_value_Compare : F_value_Compare Tryz.prog := ⟨62, i_cmp_Compare_int, i_cmp_Compare_string, i_cmp_Or_int, ⟨Tryz.f62, Tryz.f62.body.getD .skip, Tryz.func62, by kernel_rfl, by kernel_rfl, by kernel_rfl, by kernel_rfl, by kernel_rfl⟩⟩
noncomputable def i_value_CompareRows : F_value_CompareRows Tryz.prog := ⟨36, i_slices_CompareFunc_LValue_Value, i_value_Compare, ⟨Tryz.f36, Tryz.f36.body.getD .skip, Tryz.func36, by kernel_rfl, by kernel_rfl, by kernel_rfl, by kernel_rfl, by kernel_rfl⟩⟩
noncomputable def i_bag_Validate : F_bag_Validate Tryz.prog := ⟨54, i_bag_formed, i_value_CompareRows, ⟨Tryz.f54, Tryz.f54.body.getD .skip, Tryz.func54, by kernel_rfl, by kernel_rfl, by kernel_rfl, by kernel_rfl, by kernel_rfl⟩⟩
noncomputable def i_bag_Size : F_bag_Size Tryz.prog := ⟨29, i_bag_Validate, ⟨Tryz.f29, Tryz.f29.body.getD .skip, Tryz.func29, by kernel_rfl, by kernel_rfl, by kernel_rfl, by kernel_rfl, by kernel_rfl⟩⟩
noncomputable def i_slices_IndexFunc_LEntry_Entry : F_slices_IndexFunc_LEntry_Entry Tryz.prog := ⟨77, ⟨Tryz.f77, Tryz.f77.body.getD .skip, Tryz.func77, by kernel_rfl, by kernel_rfl, by kernel_rfl, by kernel_rfl, by kernel_rfl⟩⟩
noncomputable def i_slices_ContainsFunc_LEntry_Entry : F_slices_ContainsFunc_LEntry_Entry Tryz.prog := ⟨55, i_slices_IndexFunc_LEntry_Entry, ⟨Tryz.f55, Tryz.f55.body.getD .skip, Tryz.func55, by kernel_rfl, by kernel_rfl, by kernel_rfl, by kernel_rfl, by kernel_rfl⟩⟩
noncomputable def i_bag_IsTable_1 : F_bag_IsTable_1 Tryz.prog := ⟨56, ⟨Tryz.f56, Tryz.f56.body.getD .skip, Tryz.func56, by kernel_rfl, by kernel_rfl, by kernel_rfl, by kernel_rfl, by kernel_rfl⟩⟩
noncomputable def i_bag_IsTable : F_bag_IsTable Tryz.prog := ⟨30, i_bag_Validate, i_slices_ContainsFunc_LEntry_Entry, i_bag_IsTable_1, ⟨Tryz.f30, Tryz.f30.body.getD .skip, Tryz.func30, by kernel_rfl, by kernel_rfl, by kernel_rfl, by kernel_rfl, by kernel_rfl⟩⟩
noncomputable def i_slices_Clone_LValue_Value : F_slices_Clone_LValue_Value Tryz.prog := ⟨17, ⟨Tryz.f17, Tryz.f17.body.getD .skip, Tryz.func17, by kernel_rfl, by kernel_rfl, by kernel_rfl, by kernel_rfl, by kernel_rfl⟩⟩
noncomputable def i_bag_Expand : F_bag_Expand Tryz.prog := ⟨13, i_bag_Size, i_bag_IsTable, i_slices_Clone_LValue_Value, ⟨Tryz.f13, Tryz.f13.body.getD .skip, Tryz.func13, by kernel_rfl, by kernel_rfl, by kernel_rfl, by kernel_rfl, by kernel_rfl⟩⟩
noncomputable def i_schema_pick_Value : F_schema_pick_Value Tryz.prog := ⟨58, ⟨Tryz.f58, Tryz.f58.body.getD .skip, Tryz.func58, by kernel_rfl, by kernel_rfl, by kernel_rfl, by kernel_rfl, by kernel_rfl⟩⟩
noncomputable def i_schema_Pick : F_schema_Pick Tryz.prog := ⟨33, i_schema_pick_Value, ⟨Tryz.f33, Tryz.f33.body.getD .skip, Tryz.func33, by kernel_rfl, by kernel_rfl, by kernel_rfl, by kernel_rfl, by kernel_rfl⟩⟩
noncomputable def i_window_cell : F_window_cell Tryz.prog := ⟨31, i_schema_Pick, ⟨Tryz.f31, Tryz.f31.body.getD .skip, Tryz.func31, by kernel_rfl, by kernel_rfl, by kernel_rfl, by kernel_rfl, by kernel_rfl⟩⟩
noncomputable def i_window_check : F_window_check Tryz.prog := ⟨14, i_window_cell, ⟨Tryz.f14, Tryz.f14.body.getD .skip, Tryz.func14, by kernel_rfl, by kernel_rfl, by kernel_rfl, by kernel_rfl, by kernel_rfl⟩⟩
noncomputable def i_value_word : F_value_word Tryz.prog := ⟨78, ⟨Tryz.f78, Tryz.f78.body.getD .skip, Tryz.func78, by kernel_rfl, by kernel_rfl, by kernel_rfl, by kernel_rfl, by kernel_rfl⟩⟩
noncomputable def i_value_Encode : F_value_Encode Tryz.prog := ⟨57, i_value_Valid, i_value_word, ⟨Tryz.f57, Tryz.f57.body.getD .skip, Tryz.func57, by kernel_rfl, by kernel_rfl, by kernel_rfl, by kernel_rfl, by kernel_rfl⟩⟩
noncomputable def i_window_fingerprint : F_window_fingerprint Tryz.prog := ⟨32, i_value_Encode, ⟨Tryz.f32, Tryz.f32.body.getD .skip, Tryz.func32, by kernel_rfl, by kernel_rfl, by kernel_rfl, by kernel_rfl, by kernel_rfl⟩⟩
noncomputable def i_window_partitions_1 : F_window_partitions_1 Tryz.prog := ⟨35, i_schema_Pick, i_value_CompareRows, ⟨Tryz.f35, Tryz.f35.body.getD .skip, Tryz.func35, by kernel_rfl, by kernel_rfl, by kernel_rfl, by kernel_rfl, by kernel_rfl⟩⟩
noncomputable def i_math_bits_Len32 : F_math_bits_Len32 Tryz.prog := ⟨87, ⟨Tryz.f87, Tryz.f87.body.getD .skip, Tryz.func87, by kernel_rfl, by kernel_rfl, by kernel_rfl, by kernel_rfl, by kernel_rfl⟩⟩
noncomputable def i_math_bits_Len64 : F_math_bits_Len64 Tryz.prog := ⟨88, ⟨Tryz.f88, Tryz.f88.body.getD .skip, Tryz.func88, by kernel_rfl, by kernel_rfl, by kernel_rfl, by kernel_rfl, by kernel_rfl⟩⟩
noncomputable def i_math_bits_Len : F_math_bits_Len Tryz.prog := ⟨60, i_math_bits_Len32, i_math_bits_Len64, ⟨Tryz.f60, Tryz.f60.body.getD .skip, Tryz.func60, by kernel_rfl, by kernel_rfl, by kernel_rfl, by kernel_rfl, by kernel_rfl⟩⟩
noncomputable def i_slices_insertionSortCmpFunc_LValue : F_slices_insertionSortCmpFunc_LValue Tryz.prog := ⟨79, ⟨Tryz.f79, Tryz.f79.body.getD .skip, Tryz.func79, by kernel_rfl, by kernel_rfl, by kernel_rfl, by kernel_rfl, by kernel_rfl⟩⟩
noncomputable def i_slices_siftDownCmpFunc_LValue : F_slices_siftDownCmpFunc_LValue Tryz.prog := ⟨94, ⟨Tryz.f94, Tryz.f94.body.getD .skip, Tryz.func94, by kernel_rfl, by kernel_rfl, by kernel_rfl, by kernel_rfl, by kernel_rfl⟩⟩
noncomputable def i_slices_heapSortCmpFunc_LValue : F_slices_heapSortCmpFunc_LValue Tryz.prog := ⟨80, i_slices_siftDownCmpFunc_LValue, ⟨Tryz.f80, Tryz.f80.body.getD .skip, Tryz.func80, by kernel_rfl, by kernel_rfl, by kernel_rfl, by kernel_rfl, by kernel_rfl⟩⟩
noncomputable def i_slices_nextPowerOfTwo : F_slices_nextPowerOfTwo Tryz.prog := ⟨95, i_math_bits_Len, ⟨Tryz.f95, Tryz.f95.body.getD .skip, Tryz.func95, by kernel_rfl, by kernel_rfl, by kernel_rfl, by kernel_rfl, by kernel_rfl⟩⟩
noncomputable def i_slices_xorshift_Next : F_slices_xorshift_Next Tryz.prog := ⟨96, ⟨Tryz.f96, Tryz.f96.body.getD .skip, Tryz.func96, by kernel_rfl, by kernel_rfl, by kernel_rfl, by kernel_rfl, by kernel_rfl⟩⟩
noncomputable def i_slices_breakPatternsCmpFunc_LValue : F_slices_breakPatternsCmpFunc_LValue Tryz.prog := ⟨81, i_slices_nextPowerOfTwo, i_slices_xorshift_Next, ⟨Tryz.f81, Tryz.f81.body.getD .skip, Tryz.func81, by kernel_rfl, by kernel_rfl, by kernel_rfl, by kernel_rfl, by kernel_rfl⟩⟩
noncomputable def i_slices_order2CmpFunc_LValue : F_slices_order2CmpFunc_LValue Tryz.prog := ⟨109, ⟨Tryz.f109, Tryz.f109.body.getD .skip, Tryz.func109, by kernel_rfl, by kernel_rfl, by kernel_rfl, by kernel_rfl, by kernel_rfl⟩⟩
noncomputable def i_slices_medianCmpFunc_LValue : F_slices_medianCmpFunc_LValue Tryz.prog := ⟨98, i_slices_order2CmpFunc_LValue, ⟨Tryz.f98, Tryz.f98.body.getD .skip, Tryz.func98, by kernel_rfl, by kernel_rfl, by kernel_rfl, by kernel_rfl, by kernel_rfl⟩⟩
noncomputable def i_slices_medianAdjacentCmpFunc_LValue : F_slices_medianAdjacentCmpFunc_LValue Tryz.prog := ⟨97, i_slices_medianCmpFunc_LValue, ⟨Tryz.f97, Tryz.f97.body.getD .skip, Tryz.func97, by kernel_rfl, by kernel_rfl, by kernel_rfl, by kernel_rfl, by kernel_rfl⟩⟩
noncomputable def i_slices_choosePivotCmpFunc_LValue : F_slices_choosePivotCmpFunc_LValue Tryz.prog := ⟨82, i_slices_medianAdjacentCmpFunc_LValue, i_slices_medianCmpFunc_LValue, ⟨Tryz.f82, Tryz.f82.body.getD .skip, Tryz.func82, by kernel_rfl, by kernel_rfl, by kernel_rfl, by kernel_rfl, by kernel_rfl⟩⟩
noncomputable def i_slices_reverseRangeCmpFunc_LValue : F_slices_reverseRangeCmpFunc_LValue Tryz.prog := ⟨83, ⟨Tryz.f83, Tryz.f83.body.getD .skip, Tryz.func83, by kernel_rfl, by kernel_rfl, by kernel_rfl, by kernel_rfl, by kernel_rfl⟩⟩
noncomputable def i_slices_partialInsertionSortCmpFunc_LValue : F_slices_partialInsertionSortCmpFunc_LValue Tryz.prog := ⟨84, ⟨Tryz.f84, Tryz.f84.body.getD .skip, Tryz.func84, by kernel_rfl, by kernel_rfl, by kernel_rfl, by kernel_rfl, by kernel_rfl⟩⟩
noncomputable def i_slices_partitionEqualCmpFunc_LValue : F_slices_partitionEqualCmpFunc_LValue Tryz.prog := ⟨85, ⟨Tryz.f85, Tryz.f85.body.getD .skip, Tryz.func85, by kernel_rfl, by kernel_rfl, by kernel_rfl, by kernel_rfl, by kernel_rfl⟩⟩
noncomputable def i_slices_partitionCmpFunc_LValue : F_slices_partitionCmpFunc_LValue Tryz.prog := ⟨86, ⟨Tryz.f86, Tryz.f86.body.getD .skip, Tryz.func86, by kernel_rfl, by kernel_rfl, by kernel_rfl, by kernel_rfl, by kernel_rfl⟩⟩
noncomputable def i_slices_pdqsortCmpFunc_LValue : F_slices_pdqsortCmpFunc_LValue Tryz.prog := ⟨59, i_slices_insertionSortCmpFunc_LValue, i_slices_heapSortCmpFunc_LValue, i_slices_breakPatternsCmpFunc_LValue, i_slices_choosePivotCmpFunc_LValue, i_slices_reverseRangeCmpFunc_LValue, i_slices_partialInsertionSortCmpFunc_LValue, i_slices_partitionEqualCmpFunc_LValue, i_slices_partitionCmpFunc_LValue, ⟨Tryz.f59, Tryz.f59.body.getD .skip, Tryz.func59, by kernel_rfl, by kernel_rfl, by kernel_rfl, by kernel_rfl, by kernel_rfl⟩⟩
noncomputable def i_slices_SortFunc_LLValue_LValue : F_slices_SortFunc_LLValue_LValue Tryz.prog := ⟨34, i_math_bits_Len, i_slices_pdqsortCmpFunc_LValue, ⟨Tryz.f34, Tryz.f34.body.getD .skip, Tryz.func34, by kernel_rfl, by kernel_rfl, by kernel_rfl, by kernel_rfl, by kernel_rfl⟩⟩
noncomputable def i_window_partitions : F_window_partitions Tryz.prog := ⟨15, i_schema_Pick, i_window_fingerprint, i_window_partitions_1, i_slices_SortFunc_LLValue_LValue, ⟨Tryz.f15, Tryz.f15.body.getD .skip, Tryz.func15, by kernel_rfl, by kernel_rfl, by kernel_rfl, by kernel_rfl, by kernel_rfl⟩⟩
noncomputable def i_window_column_1 : F_window_column_1 Tryz.prog := ⟨37, i_window_cell, ⟨Tryz.f37, Tryz.f37.body.getD .skip, Tryz.func37, by kernel_rfl, by kernel_rfl, by kernel_rfl, by kernel_rfl, by kernel_rfl⟩⟩
noncomputable def i_window_integer : F_window_integer Tryz.prog := ⟨38, ⟨Tryz.f38, Tryz.f38.body.getD .skip, Tryz.func38, by kernel_rfl, by kernel_rfl, by kernel_rfl, by kernel_rfl, by kernel_rfl⟩⟩
noncomputable def i_window_column : F_window_column Tryz.prog := ⟨16, i_window_column_1, i_window_integer, i_schema_Pick, i_value_CompareRows, ⟨Tryz.f16, Tryz.f16.body.getD .skip, Tryz.func16, by kernel_rfl, by kernel_rfl, by kernel_rfl, by kernel_rfl, by kernel_rfl⟩⟩
noncomputable def i_slices_Clone_LEntry_Entry : F_slices_Clone_LEntry_Entry Tryz.prog := ⟨64, ⟨Tryz.f64, Tryz.f64.body.getD .skip, Tryz.func64, by kernel_rfl, by kernel_rfl, by kernel_rfl, by kernel_rfl, by kernel_rfl⟩⟩
noncomputable def i_slices_insertionSortCmpFunc_Entry : F_slices_insertionSortCmpFunc_Entry Tryz.prog := ⟨101, ⟨Tryz.f101, Tryz.f101.body.getD .skip, Tryz.func101, by kernel_rfl, by kernel_rfl, by kernel_rfl, by kernel_rfl, by kernel_rfl⟩⟩
noncomputable def i_slices_siftDownCmpFunc_Entry : F_slices_siftDownCmpFunc_Entry Tryz.prog := ⟨110, ⟨Tryz.f110, Tryz.f110.body.getD .skip, Tryz.func110, by kernel_rfl, by kernel_rfl, by kernel_rfl, by kernel_rfl, by kernel_rfl⟩⟩
noncomputable def i_slices_heapSortCmpFunc_Entry : F_slices_heapSortCmpFunc_Entry Tryz.prog := ⟨102, i_slices_siftDownCmpFunc_Entry, ⟨Tryz.f102, Tryz.f102.body.getD .skip, Tryz.func102, by kernel_rfl, by kernel_rfl, by kernel_rfl, by kernel_rfl, by kernel_rfl⟩⟩
noncomputable def i_slices_breakPatternsCmpFunc_Entry : F_slices_breakPatternsCmpFunc_Entry Tryz.prog := ⟨103, i_slices_nextPowerOfTwo, i_slices_xorshift_Next, ⟨Tryz.f103, Tryz.f103.body.getD .skip, Tryz.func103, by kernel_rfl, by kernel_rfl, by kernel_rfl, by kernel_rfl, by kernel_rfl⟩⟩
noncomputable def i_slices_order2CmpFunc_Entry : F_slices_order2CmpFunc_Entry Tryz.prog := ⟨113, ⟨Tryz.f113, Tryz.f113.body.getD .skip, Tryz.func113, by kernel_rfl, by kernel_rfl, by kernel_rfl, by kernel_rfl, by kernel_rfl⟩⟩
noncomputable def i_slices_medianCmpFunc_Entry : F_slices_medianCmpFunc_Entry Tryz.prog := ⟨112, i_slices_order2CmpFunc_Entry, ⟨Tryz.f112, Tryz.f112.body.getD .skip, Tryz.func112, by kernel_rfl, by kernel_rfl, by kernel_rfl, by kernel_rfl, by kernel_rfl⟩⟩
noncomputable def i_slices_medianAdjacentCmpFunc_Entry : F_slices_medianAdjacentCmpFunc_Entry Tryz.prog := ⟨111, i_slices_medianCmpFunc_Entry, ⟨Tryz.f111, Tryz.f111.body.getD .skip, Tryz.func111, by kernel_rfl, by kernel_rfl, by kernel_rfl, by kernel_rfl, by kernel_rfl⟩⟩
noncomputable def i_slices_choosePivotCmpFunc_Entry : F_slices_choosePivotCmpFunc_Entry Tryz.prog := ⟨104, i_slices_medianAdjacentCmpFunc_Entry, i_slices_medianCmpFunc_Entry, ⟨Tryz.f104, Tryz.f104.body.getD .skip, Tryz.func104, by kernel_rfl, by kernel_rfl, by kernel_rfl, by kernel_rfl, by kernel_rfl⟩⟩
noncomputable def i_slices_reverseRangeCmpFunc_Entry : F_slices_reverseRangeCmpFunc_Entry Tryz.prog := ⟨105, ⟨Tryz.f105, Tryz.f105.body.getD .skip, Tryz.func105, by kernel_rfl, by kernel_rfl, by kernel_rfl, by kernel_rfl, by kernel_rfl⟩⟩
noncomputable def i_slices_partialInsertionSortCmpFunc_Entry : F_slices_partialInsertionSortCmpFunc_Entry Tryz.prog := ⟨106, ⟨Tryz.f106, Tryz.f106.body.getD .skip, Tryz.func106, by kernel_rfl, by kernel_rfl, by kernel_rfl, by kernel_rfl, by kernel_rfl⟩⟩
noncomputable def i_slices_partitionEqualCmpFunc_Entry : F_slices_partitionEqualCmpFunc_Entry Tryz.prog := ⟨107, ⟨Tryz.f107, Tryz.f107.body.getD .skip, Tryz.func107, by kernel_rfl, by kernel_rfl, by kernel_rfl, by kernel_rfl, by kernel_rfl⟩⟩
noncomputable def i_slices_partitionCmpFunc_Entry : F_slices_partitionCmpFunc_Entry Tryz.prog := ⟨108, ⟨Tryz.f108, Tryz.f108.body.getD .skip, Tryz.func108, by kernel_rfl, by kernel_rfl, by kernel_rfl, by kernel_rfl, by kernel_rfl⟩⟩
noncomputable def i_slices_pdqsortCmpFunc_Entry : F_slices_pdqsortCmpFunc_Entry Tryz.prog := ⟨92, i_slices_insertionSortCmpFunc_Entry, i_slices_heapSortCmpFunc_Entry, i_slices_breakPatternsCmpFunc_Entry, i_slices_choosePivotCmpFunc_Entry, i_slices_reverseRangeCmpFunc_Entry, i_slices_partialInsertionSortCmpFunc_Entry, i_slices_partitionEqualCmpFunc_Entry, i_slices_partitionCmpFunc_Entry, ⟨Tryz.f92, Tryz.f92.body.getD .skip, Tryz.func92, by kernel_rfl, by kernel_rfl, by kernel_rfl, by kernel_rfl, by kernel_rfl⟩⟩
noncomputable def i_slices_SortFunc_LEntry_Entry : F_slices_SortFunc_LEntry_Entry Tryz.prog := ⟨65, i_math_bits_Len, i_slices_pdqsortCmpFunc_Entry, ⟨Tryz.f65, Tryz.f65.body.getD .skip, Tryz.func65, by kernel_rfl, by kernel_rfl, by kernel_rfl, by kernel_rfl, by kernel_rfl⟩⟩
noncomputable def i_bag_sum_1 : F_bag_sum_1 Tryz.prog := ⟨66, i_value_CompareRows, ⟨Tryz.f66, Tryz.f66.body.getD .skip, Tryz.func66, by kernel_rfl, by kernel_rfl, by kernel_rfl, by kernel_rfl, by kernel_rfl⟩⟩
noncomputable def i_bag_put : F_bag_put Tryz.prog := ⟨67, i_slices_Clone_LValue_Value, ⟨Tryz.f67, Tryz.f67.body.getD .skip, Tryz.func67, by kernel_rfl, by kernel_rfl, by kernel_rfl, by kernel_rfl, by kernel_rfl⟩⟩
noncomputable def i_bag_done : F_bag_done Tryz.prog := ⟨68, ⟨Tryz.f68, Tryz.f68.body.getD .skip, Tryz.func68, by kernel_rfl, by kernel_rfl, by kernel_rfl, by kernel_rfl, by kernel_rfl⟩⟩
noncomputable def i_bag_sum : F_bag_sum Tryz.prog := ⟨40, i_slices_Clone_LEntry_Entry, i_slices_SortFunc_LEntry_Entry, i_bag_sum_1, i_value_CompareRows, i_bag_put, i_bag_done, ⟨Tryz.f40, Tryz.f40.body.getD .skip, Tryz.func40, by kernel_rfl, by kernel_rfl, by kernel_rfl, by kernel_rfl, by kernel_rfl⟩⟩
noncomputable def i_bag_Normalize : F_bag_Normalize Tryz.prog := ⟨18, i_bag_formed, i_bag_sum, ⟨Tryz.f18, Tryz.f18.body.getD .skip, Tryz.func18, by kernel_rfl, by kernel_rfl, by kernel_rfl, by kernel_rfl, by kernel_rfl⟩⟩
noncomputable def i_window_Apply : F_window_Apply Tryz.prog := ⟨7, i_bag_Expand, i_window_check, i_window_partitions, i_window_column, i_slices_Clone_LValue_Value, i_bag_Normalize, ⟨Tryz.f7, Tryz.f7.body.getD .skip, Tryz.func7, by kernel_rfl, by kernel_rfl, by kernel_rfl, by kernel_rfl, by kernel_rfl⟩⟩
noncomputable def i_warehouseref6_Validate : F_warehouseref6_Validate Tryz.prog := ⟨69, i_warehouseref6_fits, i_warehouseref1_CompareRows, ⟨Tryz.f69, Tryz.f69.body.getD .skip, Tryz.func69, by kernel_rfl, by kernel_rfl, by kernel_rfl, by kernel_rfl, by kernel_rfl⟩⟩
noncomputable def i_warehouseref6_Size : F_warehouseref6_Size Tryz.prog := ⟨41, i_warehouseref6_Validate, ⟨Tryz.f41, Tryz.f41.body.getD .skip, Tryz.func41, by kernel_rfl, by kernel_rfl, by kernel_rfl, by kernel_rfl, by kernel_rfl⟩⟩
noncomputable def i_warehouseref6_positive : F_warehouseref6_positive Tryz.prog := ⟨42, ⟨Tryz.f42, Tryz.f42.body.getD .skip, Tryz.func42, by kernel_rfl, by kernel_rfl, by kernel_rfl, by kernel_rfl, by kernel_rfl⟩⟩
noncomputable def i_warehouseref6_Expand : F_warehouseref6_Expand Tryz.prog := ⟨19, i_warehouseref6_Size, i_warehouseref6_positive, ⟨Tryz.f19, Tryz.f19.body.getD .skip, Tryz.func19, by kernel_rfl, by kernel_rfl, by kernel_rfl, by kernel_rfl, by kernel_rfl⟩⟩
noncomputable def i_warehouseref17_windowed : F_warehouseref17_windowed Tryz.prog := ⟨43, ⟨Tryz.f43, Tryz.f43.body.getD .skip, Tryz.func43, by kernel_rfl, by kernel_rfl, by kernel_rfl, by kernel_rfl, by kernel_rfl⟩⟩
noncomputable def i_warehouseref5_Pick : F_warehouseref5_Pick Tryz.prog := ⟨70, ⟨Tryz.f70, Tryz.f70.body.getD .skip, Tryz.func70, by kernel_rfl, by kernel_rfl, by kernel_rfl, by kernel_rfl, by kernel_rfl⟩⟩
noncomputable def i_warehouseref17_argument : F_warehouseref17_argument Tryz.prog := ⟨44, i_warehouseref5_Pick, ⟨Tryz.f44, Tryz.f44.body.getD .skip, Tryz.func44, by kernel_rfl, by kernel_rfl, by kernel_rfl, by kernel_rfl, by kernel_rfl⟩⟩
noncomputable def i_warehouseref17_item : F_warehouseref17_item Tryz.prog := ⟨20, i_warehouseref17_windowed, i_warehouseref17_argument, ⟨Tryz.f20, Tryz.f20.body.getD .skip, Tryz.func20, by kernel_rfl, by kernel_rfl, by kernel_rfl, by kernel_rfl, by kernel_rfl⟩⟩
noncomputable def i_warehouseref17_compare : F_warehouseref17_compare Tryz.prog := ⟨45, i_warehouseref5_Pick, i_warehouseref1_CompareRows, ⟨Tryz.f45, Tryz.f45.body.getD .skip, Tryz.func45, by kernel_rfl, by kernel_rfl, by kernel_rfl, by kernel_rfl, by kernel_rfl⟩⟩
noncomputable def i_warehouseref17_members : F_warehouseref17_members Tryz.prog := ⟨21, i_warehouseref17_compare, ⟨Tryz.f21, Tryz.f21.body.getD .skip, Tryz.func21, by kernel_rfl, by kernel_rfl, by kernel_rfl, by kernel_rfl, by kernel_rfl⟩⟩
noncomputable def i_warehouseref1_SameRow : F_warehouseref1_SameRow Tryz.prog := ⟨25, i_warehouseref1_CompareRows, ⟨Tryz.f25, Tryz.f25.body.getD .skip, Tryz.func25, by kernel_rfl, by kernel_rfl, by kernel_rfl, by kernel_rfl, by kernel_rfl⟩⟩
noncomputable def i_warehouseref17_place : F_warehouseref17_place Tryz.prog := ⟨22, i_warehouseref1_SameRow, ⟨Tryz.f22, Tryz.f22.body.getD .skip, Tryz.func22, by kernel_rfl, by kernel_rfl, by kernel_rfl, by kernel_rfl, by kernel_rfl⟩⟩
noncomputable def i_warehouseref17_number : F_warehouseref17_number Tryz.prog := ⟨46, ⟨Tryz.f46, Tryz.f46.body.getD .skip, Tryz.func46, by kernel_rfl, by kernel_rfl, by kernel_rfl, by kernel_rfl, by kernel_rfl⟩⟩
noncomputable def i_warehouseref17_running : F_warehouseref17_running Tryz.prog := ⟨47, i_warehouseref17_argument, i_warehouseref17_number, ⟨Tryz.f47, Tryz.f47.body.getD .skip, Tryz.func47, by kernel_rfl, by kernel_rfl, by kernel_rfl, by kernel_rfl, by kernel_rfl⟩⟩
noncomputable def i_warehouseref17_at : F_warehouseref17_at Tryz.prog := ⟨48, i_warehouseref17_argument, ⟨Tryz.f48, Tryz.f48.body.getD .skip, Tryz.func48, by kernel_rfl, by kernel_rfl, by kernel_rfl, by kernel_rfl, by kernel_rfl⟩⟩
noncomputable def i_warehouseref17_value : F_warehouseref17_value Tryz.prog := ⟨23, i_warehouseref17_number, i_warehouseref17_compare, i_warehouseref17_running, i_warehouseref17_at, ⟨Tryz.f23, Tryz.f23.body.getD .skip, Tryz.func23, by kernel_rfl, by kernel_rfl, by kernel_rfl, by kernel_rfl, by kernel_rfl⟩⟩
noncomputable def i_warehouseref17_Apply : F_warehouseref17_Apply Tryz.prog := ⟨9, i_warehouseref6_Expand, i_warehouseref17_item, i_warehouseref17_members, i_warehouseref17_place, i_warehouseref17_value, i_warehouseref6_Sum, ⟨Tryz.f9, Tryz.f9.body.getD .skip, Tryz.func9, by kernel_rfl, by kernel_rfl, by kernel_rfl, by kernel_rfl, by kernel_rfl⟩⟩
noncomputable def i_warehouseref6_Same : F_warehouseref6_Same Tryz.prog := ⟨10, i_warehouseref1_SameRow, ⟨Tryz.f10, Tryz.f10.body.getD .skip, Tryz.func10, by kernel_rfl, by kernel_rfl, by kernel_rfl, by kernel_rfl, by kernel_rfl⟩⟩
noncomputable def i_warehouselaw18_known : F_warehouselaw18_known Tryz.prog := ⟨11, i_window_Apply, ⟨Tryz.f11, Tryz.f11.body.getD .skip, Tryz.func11, by kernel_rfl, by kernel_rfl, by kernel_rfl, by kernel_rfl, by kernel_rfl⟩⟩
noncomputable def i_warehouselaw18_WindowErrors : F_warehouselaw18_WindowErrors Tryz.prog := ⟨4, i_warehouselaw18_table, i_warehouselaw18_items, i_warehouselaw18_places, i_window_Apply, i_warehouseref17_Apply, i_warehouseref6_Same, i_warehouselaw18_known, ⟨Tryz.f4, Tryz.f4.body.getD .skip, Tryz.func4, by kernel_rfl, by kernel_rfl, by kernel_rfl, by kernel_rfl, by kernel_rfl⟩⟩
/-- The numbers of the library's sort in this program. -/
def layRen : Go.Shelf.Ren := ⟨fun | 6 => 65 | 15 => 60 | 14 => 92 | 28 => 87 | 29 => 88 | 20 => 101 | 21 => 102 | 22 => 103 | 23 => 104 | 24 => 105 | 25 => 106 | 26 => 107 | 27 => 108 | 46 => 110 | 47 => 95 | 48 => 96 | 49 => 111 | 50 => 112 | 57 => 113 | n => n, fun | 22 => 23 | 24 => 41 | 25 => 94 | 3 => 3 | 39 => 32 | 0 => 0 | 53 => 110 | 55 => 112 | 4 => 4 | 46 => 104 | 45 => 103 | 50 => 72 | 5 => 5 | 9 => 9 | 66 => 118 | 70 => 122 | 76 => 130 | 77 => 131 | n => n, fun | n => n⟩
/-- The library's sort stands in this program. -/
theorem lay : Go.Proofs.SlLaysF0.n6 Tryz.prog layRen where
  mixed := by kernel_rfl
  f6 := ⟨ "slices.SortFunc[[]warehouse/api.Entry,warehouse/api.Entry]", by decide, Tryz.func65.trans (congrArg some (by kernel_rfl))⟩
  f14 := ⟨ "slices.pdqsortCmpFunc[warehouse/api.Entry]", by decide, Tryz.func92.trans (congrArg some (by kernel_rfl))⟩
  f15 := Tryz.func60.trans (congrArg some (by kernel_rfl))
  f20 := ⟨ "slices.insertionSortCmpFunc[warehouse/api.Entry]", by decide, Tryz.func101.trans (congrArg some (by kernel_rfl))⟩
  f21 := ⟨ "slices.heapSortCmpFunc[warehouse/api.Entry]", by decide, Tryz.func102.trans (congrArg some (by kernel_rfl))⟩
  f22 := ⟨ "slices.breakPatternsCmpFunc[warehouse/api.Entry]", by decide, Tryz.func103.trans (congrArg some (by kernel_rfl))⟩
  f23 := ⟨ "slices.choosePivotCmpFunc[warehouse/api.Entry]", by decide, Tryz.func104.trans (congrArg some (by kernel_rfl))⟩
  f24 := ⟨ "slices.reverseRangeCmpFunc[warehouse/api.Entry]", by decide, Tryz.func105.trans (congrArg some (by kernel_rfl))⟩
  f25 := ⟨ "slices.partialInsertionSortCmpFunc[warehouse/api.Entry]", by decide, Tryz.func106.trans (congrArg some (by kernel_rfl))⟩
  f26 := ⟨ "slices.partitionEqualCmpFunc[warehouse/api.Entry]", by decide, Tryz.func107.trans (congrArg some (by kernel_rfl))⟩
  f27 := ⟨ "slices.partitionCmpFunc[warehouse/api.Entry]", by decide, Tryz.func108.trans (congrArg some (by kernel_rfl))⟩
  f28 := Tryz.func87.trans (congrArg some (by kernel_rfl))
  f29 := Tryz.func88.trans (congrArg some (by kernel_rfl))
  f46 := ⟨ "slices.siftDownCmpFunc[warehouse/api.Entry]", by decide, Tryz.func110.trans (congrArg some (by kernel_rfl))⟩
  f47 := Tryz.func95.trans (congrArg some (by kernel_rfl))
  f48 := Tryz.func96.trans (congrArg some (by kernel_rfl))
  f49 := ⟨ "slices.medianAdjacentCmpFunc[warehouse/api.Entry]", by decide, Tryz.func111.trans (congrArg some (by kernel_rfl))⟩
  f50 := ⟨ "slices.medianCmpFunc[warehouse/api.Entry]", by decide, Tryz.func112.trans (congrArg some (by kernel_rfl))⟩
  f57 := ⟨ "slices.order2CmpFunc[warehouse/api.Entry]", by decide, Tryz.func113.trans (congrArg some (by kernel_rfl))⟩
  t0 := Tryz.underlying0
  a0 := Tryz.isAgg0
  z0 := Tryz.sizeOf0
  v0 := Tryz.zeroValue0
  t3 := Tryz.underlying3
  a3 := Tryz.isAgg3
  z3 := Tryz.sizeOf3
  v3 := Tryz.zeroValue3
  t4 := Tryz.underlying4
  a4 := Tryz.isAgg4
  z4 := Tryz.sizeOf4
  v4 := Tryz.zeroValue4
  t5 := Tryz.underlying5
  a5 := Tryz.isAgg5
  z5 := Tryz.sizeOf5
  v5 := Tryz.zeroValue5
  t9 := Tryz.underlying9
  a9 := Tryz.isAgg9
  z9 := Tryz.sizeOf9
  v9 := Tryz.zeroValue9
  t22 := Tryz.underlying23
  a22 := Tryz.isAgg23
  z22 := Tryz.sizeOf23
  v22 := Tryz.zeroValue23
  t25 := Tryz.underlying94
  a25 := Tryz.isAgg94
  z25 := Tryz.sizeOf94
  v25 := Tryz.zeroValue94
  t39 := Tryz.underlying32
  a39 := Tryz.isAgg32
  z39 := Tryz.sizeOf32
  v39 := Tryz.zeroValue32
  t45 := Tryz.underlying103
  a45 := Tryz.isAgg103
  z45 := Tryz.sizeOf103
  v45 := Tryz.zeroValue103
  t46 := Tryz.underlying104
  a46 := Tryz.isAgg104
  z46 := Tryz.sizeOf104
  v46 := Tryz.zeroValue104
  t50 := Tryz.underlying72
  a50 := Tryz.isAgg72
  z50 := Tryz.sizeOf72
  v50 := Tryz.zeroValue72
  t53 := Tryz.underlying110
  a53 := Tryz.isAgg110
  z53 := Tryz.sizeOf110
  v53 := Tryz.zeroValue110
  t55 := Tryz.underlying112
  a55 := Tryz.isAgg112
  z55 := Tryz.sizeOf112
  v55 := Tryz.zeroValue112
  t66 := Tryz.underlying118
  a66 := Tryz.isAgg118
  z66 := Tryz.sizeOf118
  v66 := Tryz.zeroValue118
  t70 := Tryz.underlying122
  a70 := Tryz.isAgg122
  z70 := Tryz.sizeOf122
  v70 := Tryz.zeroValue122
  t76 := Tryz.underlying130
  a76 := Tryz.isAgg130
  z76 := Tryz.sizeOf130
  v76 := Tryz.zeroValue130
  t77 := Tryz.underlying131
  a77 := Tryz.isAgg131
  z77 := Tryz.sizeOf131
  v77 := Tryz.zeroValue131
theorem srt : SortE Tryz.prog 65 66 := sortE_of lay Tryz.isAgg41 Tryz.sizeOf41 i_bag_sum_1
/-- The numbers of the library's sort in this program. -/
def layRenR : Go.Shelf.Ren := ⟨fun | 6 => 34 | 15 => 60 | 14 => 59 | 28 => 87 | 29 => 88 | 20 => 79 | 21 => 80 | 22 => 81 | 23 => 82 | 24 => 83 | 25 => 84 | 26 => 85 | 27 => 86 | 46 => 94 | 47 => 95 | 48 => 96 | 49 => 97 | 50 => 98 | 57 => 109 | n => n, fun | 22 => 46 | 24 => 39 | 25 => 74 | 3 => 3 | 39 => 32 | 0 => 0 | 53 => 110 | 55 => 112 | 4 => 4 | 46 => 104 | 45 => 103 | 50 => 72 | 5 => 5 | 9 => 9 | 66 => 118 | 70 => 122 | 76 => 130 | 77 => 131 | n => n, fun | n => n⟩
/-- The library's sort stands in this program. -/
theorem layR : Go.Proofs.SlLaysF.n6 Tryz.prog layRenR where
  mixed := by kernel_rfl
  f6 := ⟨ "slices.SortFunc[[][]warehouse/api.Value,[]warehouse/api.Value]", by decide, Tryz.func34.trans (congrArg some (by kernel_rfl))⟩
  f14 := ⟨ "slices.pdqsortCmpFunc[[]warehouse/api.Value]", by decide, Tryz.func59.trans (congrArg some (by kernel_rfl))⟩
  f15 := Tryz.func60.trans (congrArg some (by kernel_rfl))
  f20 := ⟨ "slices.insertionSortCmpFunc[[]warehouse/api.Value]", by decide, Tryz.func79.trans (congrArg some (by kernel_rfl))⟩
  f21 := ⟨ "slices.heapSortCmpFunc[[]warehouse/api.Value]", by decide, Tryz.func80.trans (congrArg some (by kernel_rfl))⟩
  f22 := ⟨ "slices.breakPatternsCmpFunc[[]warehouse/api.Value]", by decide, Tryz.func81.trans (congrArg some (by kernel_rfl))⟩
  f23 := ⟨ "slices.choosePivotCmpFunc[[]warehouse/api.Value]", by decide, Tryz.func82.trans (congrArg some (by kernel_rfl))⟩
  f24 := ⟨ "slices.reverseRangeCmpFunc[[]warehouse/api.Value]", by decide, Tryz.func83.trans (congrArg some (by kernel_rfl))⟩
  f25 := ⟨ "slices.partialInsertionSortCmpFunc[[]warehouse/api.Value]", by decide, Tryz.func84.trans (congrArg some (by kernel_rfl))⟩
  f26 := ⟨ "slices.partitionEqualCmpFunc[[]warehouse/api.Value]", by decide, Tryz.func85.trans (congrArg some (by kernel_rfl))⟩
  f27 := ⟨ "slices.partitionCmpFunc[[]warehouse/api.Value]", by decide, Tryz.func86.trans (congrArg some (by kernel_rfl))⟩
  f28 := Tryz.func87.trans (congrArg some (by kernel_rfl))
  f29 := Tryz.func88.trans (congrArg some (by kernel_rfl))
  f46 := ⟨ "slices.siftDownCmpFunc[[]warehouse/api.Value]", by decide, Tryz.func94.trans (congrArg some (by kernel_rfl))⟩
  f47 := Tryz.func95.trans (congrArg some (by kernel_rfl))
  f48 := Tryz.func96.trans (congrArg some (by kernel_rfl))
  f49 := ⟨ "slices.medianAdjacentCmpFunc[[]warehouse/api.Value]", by decide, Tryz.func97.trans (congrArg some (by kernel_rfl))⟩
  f50 := ⟨ "slices.medianCmpFunc[[]warehouse/api.Value]", by decide, Tryz.func98.trans (congrArg some (by kernel_rfl))⟩
  f57 := ⟨ "slices.order2CmpFunc[[]warehouse/api.Value]", by decide, Tryz.func109.trans (congrArg some (by kernel_rfl))⟩
  t0 := Tryz.underlying0
  a0 := Tryz.isAgg0
  z0 := Tryz.sizeOf0
  v0 := Tryz.zeroValue0
  t3 := Tryz.underlying3
  a3 := Tryz.isAgg3
  z3 := Tryz.sizeOf3
  v3 := Tryz.zeroValue3
  t4 := Tryz.underlying4
  a4 := Tryz.isAgg4
  z4 := Tryz.sizeOf4
  v4 := Tryz.zeroValue4
  t5 := Tryz.underlying5
  a5 := Tryz.isAgg5
  z5 := Tryz.sizeOf5
  v5 := Tryz.zeroValue5
  t9 := Tryz.underlying9
  a9 := Tryz.isAgg9
  z9 := Tryz.sizeOf9
  v9 := Tryz.zeroValue9
  t22 := Tryz.underlying46
  a22 := Tryz.isAgg46
  z22 := Tryz.sizeOf46
  v22 := Tryz.zeroValue46
  a24 := Tryz.isAgg39
  z24 := Tryz.sizeOf39
  t25 := Tryz.underlying74
  a25 := Tryz.isAgg74
  z25 := Tryz.sizeOf74
  v25 := Tryz.zeroValue74
  t39 := Tryz.underlying32
  a39 := Tryz.isAgg32
  z39 := Tryz.sizeOf32
  v39 := Tryz.zeroValue32
  t45 := Tryz.underlying103
  a45 := Tryz.isAgg103
  z45 := Tryz.sizeOf103
  v45 := Tryz.zeroValue103
  t46 := Tryz.underlying104
  a46 := Tryz.isAgg104
  z46 := Tryz.sizeOf104
  v46 := Tryz.zeroValue104
  t50 := Tryz.underlying72
  a50 := Tryz.isAgg72
  z50 := Tryz.sizeOf72
  v50 := Tryz.zeroValue72
  t53 := Tryz.underlying110
  a53 := Tryz.isAgg110
  z53 := Tryz.sizeOf110
  v53 := Tryz.zeroValue110
  t55 := Tryz.underlying112
  a55 := Tryz.isAgg112
  z55 := Tryz.sizeOf112
  v55 := Tryz.zeroValue112
  t66 := Tryz.underlying118
  a66 := Tryz.isAgg118
  z66 := Tryz.sizeOf118
  v66 := Tryz.zeroValue118
  t70 := Tryz.underlying122
  a70 := Tryz.isAgg122
  z70 := Tryz.sizeOf122
  v70 := Tryz.zeroValue122
  t76 := Tryz.underlying130
  a76 := Tryz.isAgg130
  z76 := Tryz.sizeOf130
  v76 := Tryz.zeroValue130
  t77 := Tryz.underlying131
  a77 := Tryz.isAgg131
  z77 := Tryz.sizeOf131
  v77 := Tryz.zeroValue131
theorem srtR : SortR Tryz.prog 34 35 := sortR_of layR i_window_partitions_1

theorem lifted (os : Os) (started : os.Started) (H : Type) (enc : TypeId × Value → H) :
    ReturnsInHanded {} Tryz.checked os 4 .any (Rows.windowErrorsSpec.pre6 enc Tryz.prog Tryz.f4 Rows.windowErrorsRow.domain false) (Rows.windowErrorsSpec.post enc Tryz.prog Tryz.f4 false true false false) := by
  refine lifted_of_law (C := Tryz.checked) (n := 7) (tb := 4) (shs := [(false, [.slice [.int .i64]]), (false, [.int .i64]), (false, [.int .i64])]) own started (by kernel_rfl) Tryz.func4
    (ChangeSpec.witness6 (enc := enc) (C := Tryz.checked) false ⟨#[], #[.slice none 0 0, .int .i64 0, .int .i64 0], []⟩ 8 (by kernel_rfl) (by kernel_rfl) (by kernel_rfl) (by kernel_rfl))
    laidOut (by kernel_rfl) (fun ds hd => ?_) rfl (by kernel_rfl) Tryz.underlying4 (by kernel_rfl) i_warehouselaw18_WindowErrors.has ?_
  · have hd : ds.length = 3 := hd.trans (by kernel_rfl)
    obtain ⟨d0, d1, d2, rfl⟩ : ∃ d0 d1 d2, ds = [d0, d1, d2] := by
      match ds, hd with
      | [d0, d1, d2], _ => exact ⟨d0, d1, d2, rfl⟩
    rfl
  · intro xs h
    obtain ⟨y0, xs, rfl, p0, h⟩ := argsOk_cons h
    obtain ⟨y1, xs, rfl, p1, h⟩ := argsOk_cons h
    obtain ⟨y2, xs, rfl, p2, h⟩ := argsOk_cons h
    cases argsOk_nil h
    obtain ⟨x0, rfl, h0a, h0b⟩ := argOk_ints p0
    obtain ⟨x1, rfl, h1a⟩ := argOk_int p1
    obtain ⟨x2, rfl, h2a⟩ := argOk_int p2
    first
      | exact law_WindowErrors i_warehouselaw18_WindowErrors srt srtR srt srtR x0 x1 x2
      | exact law_WindowErrors i_warehouselaw18_WindowErrors srt srtR srt srtR x0 x1 x2 h0a h0b h1a h2a

theorem over : Rows.windowErrorsRow.holds Tryz.pinned (OpenSpec.ofChange Rows.windowErrorsSpec) :=
  OpenClaim.holds_of_wide 4 Tryz.f4 rfl rfl rfl rfl rfl rfl rfl ⟨rfl, rfl, rfl, rfl, rfl⟩ rfl rfl rfl rfl rfl (by kernel_rfl) Tryz.func4 (by kernel_rfl)
    (of_decide_eq_true (by kernel_rfl)) (by unfold Func.isWrapper; first | (rw [if_pos (by decide +kernel)]; kernel_rfl) | (rw [if_neg (by decide +kernel)]; exact ⟨rfl, rfl⟩))
    (fun os started H enc _ => lifted os started H enc)

theorem proved : Rows.WindowErrorsSaid := over
#print axioms proved
end Go.Proofs.YtgmobjimfalhoaaGreat.windowErrors
