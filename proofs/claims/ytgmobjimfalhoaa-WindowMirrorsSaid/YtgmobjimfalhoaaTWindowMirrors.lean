/-
  The law WindowMirrors holds for every input.
  No condition.
-/
import Derived.Test.YtgmobjimfalhoaaRows
import Derived.Test.YtgmobjimfalhoaaZ7
import Derived.KernelRfl
import Derived.ProofKit
import Derived.WalkKit
namespace Go.Proofs.Ytgmobjimfalhoaa.windowMirrors
open Go.AW Go.ChangeShapes Go.WideShapes Go.ChangeAt Go.RowKit
set_option linter.unusedVariables false
set_option maxRecDepth 100000

instance theDraws : Draws := ⟨False⟩
theorem nodraw : ¬ Draws.up := fun h => h
theorem own : ownKnob Try.prog.godebug = none := by kernel_rfl
theorem laidOut : laidOutB Try.prog = true := by kernel_rfl

noncomputable def i_warehousebase_At : F_warehousebase_At Try.prog := ⟨59, ⟨Try.f59, Try.f59.body.getD .skip, Try.func59, by kernel_rfl, by kernel_rfl, by kernel_rfl, by kernel_rfl, by kernel_rfl⟩⟩
noncomputable def i_warehousebase_Moment : F_warehousebase_Moment Try.prog := ⟨115, ⟨Try.f115, Try.f115.body.getD .skip, Try.func115, by kernel_rfl, by kernel_rfl, by kernel_rfl, by kernel_rfl, by kernel_rfl⟩⟩
noncomputable def i_warehousebase_Value : F_warehousebase_Value Try.prog := ⟨99, i_warehousebase_Moment, ⟨Try.f99, Try.f99.body.getD .skip, Try.func99, by kernel_rfl, by kernel_rfl, by kernel_rfl, by kernel_rfl, by kernel_rfl⟩⟩
noncomputable def i_warehousebase_Cell : F_warehousebase_Cell Try.prog := ⟨81, i_warehousebase_Value, ⟨Try.f81, Try.f81.body.getD .skip, Try.func81, by kernel_rfl, by kernel_rfl, by kernel_rfl, by kernel_rfl, by kernel_rfl⟩⟩
noncomputable def i_warehousebase_Row : F_warehousebase_Row Try.prog := ⟨60, i_warehousebase_At, i_warehousebase_Cell, ⟨Try.f60, Try.f60.body.getD .skip, Try.func60, by kernel_rfl, by kernel_rfl, by kernel_rfl, by kernel_rfl, by kernel_rfl⟩⟩
noncomputable def i_warehouseref6_small : F_warehouseref6_small Try.prog := ⟨65, ⟨Try.f65, Try.f65.body.getD .skip, Try.func65, by kernel_rfl, by kernel_rfl, by kernel_rfl, by kernel_rfl, by kernel_rfl⟩⟩
noncomputable def i_warehouseref1_Valid : F_warehouseref1_Valid Try.prog := ⟨82, ⟨Try.f82, Try.f82.body.getD .skip, Try.func82, by kernel_rfl, by kernel_rfl, by kernel_rfl, by kernel_rfl, by kernel_rfl⟩⟩
noncomputable def i_warehouseref6_fits : F_warehouseref6_fits Try.prog := ⟨62, i_warehouseref6_small, i_warehouseref1_Valid, ⟨Try.f62, Try.f62.body.getD .skip, Try.func62, by kernel_rfl, by kernel_rfl, by kernel_rfl, by kernel_rfl, by kernel_rfl⟩⟩
noncomputable def i_warehouseref1_numbers : F_warehouseref1_numbers Try.prog := ⟨64, ⟨Try.f64, Try.f64.body.getD .skip, Try.func64, by kernel_rfl, by kernel_rfl, by kernel_rfl, by kernel_rfl, by kernel_rfl⟩⟩
noncomputable def i_warehouseref1_Compare : F_warehouseref1_Compare Try.prog := ⟨63, i_warehouseref1_numbers, ⟨Try.f63, Try.f63.body.getD .skip, Try.func63, by kernel_rfl, by kernel_rfl, by kernel_rfl, by kernel_rfl, by kernel_rfl⟩⟩
noncomputable def i_warehouseref1_CompareRows : F_warehouseref1_CompareRows Try.prog := ⟨35, i_warehouseref1_Compare, i_warehouseref1_numbers, ⟨Try.f35, Try.f35.body.getD .skip, Try.func35, by kernel_rfl, by kernel_rfl, by kernel_rfl, by kernel_rfl, by kernel_rfl⟩⟩
noncomputable def i_warehouseref6_merge : F_warehouseref6_merge Try.prog := ⟨38, i_warehouseref1_CompareRows, ⟨Try.f38, Try.f38.body.getD .skip, Try.func38, by kernel_rfl, by kernel_rfl, by kernel_rfl, by kernel_rfl, by kernel_rfl⟩⟩
noncomputable def i_warehouseref6_sorted : F_warehouseref6_sorted Try.prog := ⟨58, i_warehouseref6_merge, ⟨Try.f58, Try.f58.body.getD .skip, Try.func58, by kernel_rfl, by kernel_rfl, by kernel_rfl, by kernel_rfl, by kernel_rfl⟩⟩
noncomputable def i_warehouseref6_result : F_warehouseref6_result Try.prog := ⟨36, i_warehouseref6_small, ⟨Try.f36, Try.f36.body.getD .skip, Try.func36, by kernel_rfl, by kernel_rfl, by kernel_rfl, by kernel_rfl, by kernel_rfl⟩⟩
noncomputable def i_warehouseref6_Sum : F_warehouseref6_Sum Try.prog := ⟨32, i_warehouseref6_sorted, i_warehouseref6_result, ⟨Try.f32, Try.f32.body.getD .skip, Try.func32, by kernel_rfl, by kernel_rfl, by kernel_rfl, by kernel_rfl, by kernel_rfl⟩⟩
noncomputable def i_warehouseref6_Normalize : F_warehouseref6_Normalize Try.prog := ⟨61, i_warehouseref6_fits, i_warehouseref6_Sum, ⟨Try.f61, Try.f61.body.getD .skip, Try.func61, by kernel_rfl, by kernel_rfl, by kernel_rfl, by kernel_rfl, by kernel_rfl⟩⟩
noncomputable def i_warehousebase_Rows : F_warehousebase_Rows Try.prog := ⟨33, i_warehousebase_At, i_warehousebase_Row, i_warehouseref6_Normalize, ⟨Try.f33, Try.f33.body.getD .skip, Try.func33, by kernel_rfl, by kernel_rfl, by kernel_rfl, by kernel_rfl, by kernel_rfl⟩⟩
noncomputable def i_warehouselaw18_table : F_warehouselaw18_table Try.prog := ⟨12, i_warehousebase_Rows, ⟨Try.f12, Try.f12.body.getD .skip, Try.func12, by kernel_rfl, by kernel_rfl, by kernel_rfl, by kernel_rfl, by kernel_rfl⟩⟩
noncomputable def i_warehouselaw18_places : F_warehouselaw18_places Try.prog := ⟨14, ⟨Try.f14, Try.f14.body.getD .skip, Try.func14, by kernel_rfl, by kernel_rfl, by kernel_rfl, by kernel_rfl, by kernel_rfl⟩⟩
noncomputable def i_value_Valid : F_value_Valid Try.prog := ⟨75, ⟨Try.f75, Try.f75.body.getD .skip, Try.func75, by kernel_rfl, by kernel_rfl, by kernel_rfl, by kernel_rfl, by kernel_rfl⟩⟩
noncomputable def i_bag_formed : F_bag_formed Try.prog := ⟨49, i_value_Valid, ⟨Try.f49, Try.f49.body.getD .skip, Try.func49, by kernel_rfl, by kernel_rfl, by kernel_rfl, by kernel_rfl, by kernel_rfl⟩⟩
noncomputable def i_slices_CompareFunc_LValue_Value : F_slices_CompareFunc_LValue_Value Try.prog := ⟨73, ⟨Try.f73, Try.f73.body.getD .skip, Try.func73, by kernel_rfl, by kernel_rfl, by kernel_rfl, by kernel_rfl, by kernel_rfl⟩⟩
noncomputable def i_cmp_isNaN_int : F_cmp_isNaN_int Try.prog := ⟨105, ⟨Try.f105, Try.f105.body.getD .skip, Try.func105, by kernel_rfl, by kernel_rfl, by kernel_rfl, by kernel_rfl, by kernel_rfl⟩⟩
noncomputable def i_cmp_Compare_int : F_cmp_Compare_int Try.prog := ⟨96, i_cmp_isNaN_int, ⟨Try.f96, Try.f96.body.getD .skip, Try.func96, by kernel_rfl, by kernel_rfl, by kernel_rfl, by kernel_rfl, by kernel_rfl⟩⟩
noncomputable def i_cmp_isNaN_string : F_cmp_isNaN_string Try.prog := ⟨106, ⟨Try.f106, Try.f106.body.getD .skip, Try.func106, by kernel_rfl, by kernel_rfl, by kernel_rfl, by kernel_rfl, by kernel_rfl⟩⟩
noncomputable def i_cmp_Compare_string : F_cmp_Compare_string Try.prog := ⟨97, i_cmp_isNaN_string, ⟨Try.f97, Try.f97.body.getD .skip, Try.func97, by kernel_rfl, by kernel_rfl, by kernel_rfl, by kernel_rfl, by kernel_rfl⟩⟩
noncomputable def i_cmp_Or_int : F_cmp_Or_int Try.prog := ⟨95, ⟨Try.f95, Try.f95.body.getD .skip, Try.func95, by kernel_rfl, by kernel_rfl, by kernel_rfl, by kernel_rfl, by kernel_rfl⟩⟩
noncomputable def i_value_Compare : F_value_Compare Try.prog := ⟨74, i_cmp_Compare_int, i_cmp_Compare_string, i_cmp_Or_int, ⟨Try.f74, Try.f74.body.getD .skip, Try.func74, by kernel_rfl, by kernel_rfl, by kernel_rfl, by kernel_rfl, by kernel_rfl⟩⟩
noncomputable def i_value_CompareRows : F_value_CompareRows Try.prog := ⟨46, i_slices_CompareFunc_LValue_Value, i_value_Compare, ⟨Try.f46, Try.f46.body.getD .skip, Try.func46, by kernel_rfl, by kernel_rfl, by kernel_rfl, by kernel_rfl, by kernel_rfl⟩⟩
noncomputable def i_bag_Validate : F_bag_Validate Try.prog := ⟨66, i_bag_formed, i_value_CompareRows, ⟨Try.f66, Try.f66.body.getD .skip, Try.func66, by kernel_rfl, by kernel_rfl, by kernel_rfl, by kernel_rfl, by kernel_rfl⟩⟩
noncomputable def i_bag_Size : F_bag_Size Try.prog := ⟨39, i_bag_Validate, ⟨Try.f39, Try.f39.body.getD .skip, Try.func39, by kernel_rfl, by kernel_rfl, by kernel_rfl, by kernel_rfl, by kernel_rfl⟩⟩
noncomputable def i_slices_IndexFunc_LEntry_Entry : F_slices_IndexFunc_LEntry_Entry Try.prog := ⟨83, ⟨Try.f83, Try.f83.body.getD .skip, Try.func83, by kernel_rfl, by kernel_rfl, by kernel_rfl, by kernel_rfl, by kernel_rfl⟩⟩
noncomputable def i_slices_ContainsFunc_LEntry_Entry : F_slices_ContainsFunc_LEntry_Entry Try.prog := ⟨67, i_slices_IndexFunc_LEntry_Entry, ⟨Try.f67, Try.f67.body.getD .skip, Try.func67, by kernel_rfl, by kernel_rfl, by kernel_rfl, by kernel_rfl, by kernel_rfl⟩⟩
noncomputable def i_bag_IsTable_1 : F_bag_IsTable_1 Try.prog := ⟨68, ⟨Try.f68, Try.f68.body.getD .skip, Try.func68, by kernel_rfl, by kernel_rfl, by kernel_rfl, by kernel_rfl, by kernel_rfl⟩⟩
noncomputable def i_bag_IsTable : F_bag_IsTable Try.prog := ⟨40, i_bag_Validate, i_slices_ContainsFunc_LEntry_Entry, i_bag_IsTable_1, ⟨Try.f40, Try.f40.body.getD .skip, Try.func40, by kernel_rfl, by kernel_rfl, by kernel_rfl, by kernel_rfl, by kernel_rfl⟩⟩
noncomputable def i_slices_Clone_LValue_Value : F_slices_Clone_LValue_Value Try.prog := ⟨25, ⟨Try.f25, Try.f25.body.getD .skip, Try.func25, by kernel_rfl, by kernel_rfl, by kernel_rfl, by kernel_rfl, by kernel_rfl⟩⟩
noncomputable def i_bag_Expand : F_bag_Expand Try.prog := ⟨21, i_bag_Size, i_bag_IsTable, i_slices_Clone_LValue_Value, ⟨Try.f21, Try.f21.body.getD .skip, Try.func21, by kernel_rfl, by kernel_rfl, by kernel_rfl, by kernel_rfl, by kernel_rfl⟩⟩
noncomputable def i_schema_pick_Value : F_schema_pick_Value Try.prog := ⟨70, ⟨Try.f70, Try.f70.body.getD .skip, Try.func70, by kernel_rfl, by kernel_rfl, by kernel_rfl, by kernel_rfl, by kernel_rfl⟩⟩
noncomputable def i_schema_Pick : F_schema_Pick Try.prog := ⟨43, i_schema_pick_Value, ⟨Try.f43, Try.f43.body.getD .skip, Try.func43, by kernel_rfl, by kernel_rfl, by kernel_rfl, by kernel_rfl, by kernel_rfl⟩⟩
noncomputable def i_window_cell : F_window_cell Try.prog := ⟨41, i_schema_Pick, ⟨Try.f41, Try.f41.body.getD .skip, Try.func41, by kernel_rfl, by kernel_rfl, by kernel_rfl, by kernel_rfl, by kernel_rfl⟩⟩
noncomputable def i_window_check : F_window_check Try.prog := ⟨22, i_window_cell, ⟨Try.f22, Try.f22.body.getD .skip, Try.func22, by kernel_rfl, by kernel_rfl, by kernel_rfl, by kernel_rfl, by kernel_rfl⟩⟩
noncomputable def i_value_word : F_value_word Try.prog := ⟨84, ⟨Try.f84, Try.f84.body.getD .skip, Try.func84, by kernel_rfl, by kernel_rfl, by kernel_rfl, by kernel_rfl, by kernel_rfl⟩⟩
noncomputable def i_value_Encode : F_value_Encode Try.prog := ⟨69, i_value_Valid, i_value_word, ⟨Try.f69, Try.f69.body.getD .skip, Try.func69, by kernel_rfl, by kernel_rfl, by kernel_rfl, by kernel_rfl, by kernel_rfl⟩⟩
noncomputable def i_window_fingerprint : F_window_fingerprint Try.prog := ⟨42, i_value_Encode, ⟨Try.f42, Try.f42.body.getD .skip, Try.func42, by kernel_rfl, by kernel_rfl, by kernel_rfl, by kernel_rfl, by kernel_rfl⟩⟩
noncomputable def i_window_partitions_1 : F_window_partitions_1 Try.prog := ⟨45, i_schema_Pick, i_value_CompareRows, ⟨Try.f45, Try.f45.body.getD .skip, Try.func45, by kernel_rfl, by kernel_rfl, by kernel_rfl, by kernel_rfl, by kernel_rfl⟩⟩
noncomputable def i_math_bits_Len32 : F_math_bits_Len32 Try.prog := ⟨93, ⟨Try.f93, Try.f93.body.getD .skip, Try.func93, by kernel_rfl, by kernel_rfl, by kernel_rfl, by kernel_rfl, by kernel_rfl⟩⟩
noncomputable def i_math_bits_Len64 : F_math_bits_Len64 Try.prog := ⟨94, ⟨Try.f94, Try.f94.body.getD .skip, Try.func94, by kernel_rfl, by kernel_rfl, by kernel_rfl, by kernel_rfl, by kernel_rfl⟩⟩
noncomputable def i_math_bits_Len : F_math_bits_Len Try.prog := ⟨72, i_math_bits_Len32, i_math_bits_Len64, ⟨Try.f72, Try.f72.body.getD .skip, Try.func72, by kernel_rfl, by kernel_rfl, by kernel_rfl, by kernel_rfl, by kernel_rfl⟩⟩
noncomputable def i_slices_insertionSortCmpFunc_LValue : F_slices_insertionSortCmpFunc_LValue Try.prog := ⟨85, ⟨Try.f85, Try.f85.body.getD .skip, Try.func85, by kernel_rfl, by kernel_rfl, by kernel_rfl, by kernel_rfl, by kernel_rfl⟩⟩
noncomputable def i_slices_siftDownCmpFunc_LValue : F_slices_siftDownCmpFunc_LValue Try.prog := ⟨100, ⟨Try.f100, Try.f100.body.getD .skip, Try.func100, by kernel_rfl, by kernel_rfl, by kernel_rfl, by kernel_rfl, by kernel_rfl⟩⟩
noncomputable def i_slices_heapSortCmpFunc_LValue : F_slices_heapSortCmpFunc_LValue Try.prog := ⟨86, i_slices_siftDownCmpFunc_LValue, ⟨Try.f86, Try.f86.body.getD .skip, Try.func86, by kernel_rfl, by kernel_rfl, by kernel_rfl, by kernel_rfl, by kernel_rfl⟩⟩
noncomputable def i_slices_nextPowerOfTwo : F_slices_nextPowerOfTwo Try.prog := ⟨101, i_math_bits_Len, ⟨Try.f101, Try.f101.body.getD .skip, Try.func101, by kernel_rfl, by kernel_rfl, by kernel_rfl, by kernel_rfl, by kernel_rfl⟩⟩
noncomputable def i_slices_xorshift_Next : F_slices_xorshift_Next Try.prog := ⟨102, ⟨Try.f102, Try.f102.body.getD .skip, Try.func102, by kernel_rfl, by kernel_rfl, by kernel_rfl, by kernel_rfl, by kernel_rfl⟩⟩
noncomputable def i_slices_breakPatternsCmpFunc_LValue : F_slices_breakPatternsCmpFunc_LValue Try.prog := ⟨87, i_slices_nextPowerOfTwo, i_slices_xorshift_Next, ⟨Try.f87, Try.f87.body.getD .skip, Try.func87, by kernel_rfl, by kernel_rfl, by kernel_rfl, by kernel_rfl, by kernel_rfl⟩⟩
noncomputable def i_slices_order2CmpFunc_LValue : F_slices_order2CmpFunc_LValue Try.prog := ⟨116, ⟨Try.f116, Try.f116.body.getD .skip, Try.func116, by kernel_rfl, by kernel_rfl, by kernel_rfl, by kernel_rfl, by kernel_rfl⟩⟩
noncomputable def i_slices_medianCmpFunc_LValue : F_slices_medianCmpFunc_LValue Try.prog := ⟨104, i_slices_order2CmpFunc_LValue, ⟨Try.f104, Try.f104.body.getD .skip, Try.func104, by kernel_rfl, by kernel_rfl, by kernel_rfl, by kernel_rfl, by kernel_rfl⟩⟩
noncomputable def i_slices_medianAdjacentCmpFunc_LValue : F_slices_medianAdjacentCmpFunc_LValue Try.prog := ⟨103, i_slices_medianCmpFunc_LValue, ⟨Try.f103, Try.f103.body.getD .skip, Try.func103, by kernel_rfl, by kernel_rfl, by kernel_rfl, by kernel_rfl, by kernel_rfl⟩⟩
noncomputable def i_slices_choosePivotCmpFunc_LValue : F_slices_choosePivotCmpFunc_LValue Try.prog := ⟨88, i_slices_medianAdjacentCmpFunc_LValue, i_slices_medianCmpFunc_LValue, ⟨Try.f88, Try.f88.body.getD .skip, Try.func88, by kernel_rfl, by kernel_rfl, by kernel_rfl, by kernel_rfl, by kernel_rfl⟩⟩
noncomputable def i_slices_reverseRangeCmpFunc_LValue : F_slices_reverseRangeCmpFunc_LValue Try.prog := ⟨89, ⟨Try.f89, Try.f89.body.getD .skip, Try.func89, by kernel_rfl, by kernel_rfl, by kernel_rfl, by kernel_rfl, by kernel_rfl⟩⟩
noncomputable def i_slices_partialInsertionSortCmpFunc_LValue : F_slices_partialInsertionSortCmpFunc_LValue Try.prog := ⟨90, ⟨Try.f90, Try.f90.body.getD .skip, Try.func90, by kernel_rfl, by kernel_rfl, by kernel_rfl, by kernel_rfl, by kernel_rfl⟩⟩
noncomputable def i_slices_partitionEqualCmpFunc_LValue : F_slices_partitionEqualCmpFunc_LValue Try.prog := ⟨91, ⟨Try.f91, Try.f91.body.getD .skip, Try.func91, by kernel_rfl, by kernel_rfl, by kernel_rfl, by kernel_rfl, by kernel_rfl⟩⟩
noncomputable def i_slices_partitionCmpFunc_LValue : F_slices_partitionCmpFunc_LValue Try.prog := ⟨92, ⟨Try.f92, Try.f92.body.getD .skip, Try.func92, by kernel_rfl, by kernel_rfl, by kernel_rfl, by kernel_rfl, by kernel_rfl⟩⟩
noncomputable def i_slices_pdqsortCmpFunc_LValue : F_slices_pdqsortCmpFunc_LValue Try.prog := ⟨71, i_slices_insertionSortCmpFunc_LValue, i_slices_heapSortCmpFunc_LValue, i_slices_breakPatternsCmpFunc_LValue, i_slices_choosePivotCmpFunc_LValue, i_slices_reverseRangeCmpFunc_LValue, i_slices_partialInsertionSortCmpFunc_LValue, i_slices_partitionEqualCmpFunc_LValue, i_slices_partitionCmpFunc_LValue, ⟨Try.f71, Try.f71.body.getD .skip, Try.func71, by kernel_rfl, by kernel_rfl, by kernel_rfl, by kernel_rfl, by kernel_rfl⟩⟩
noncomputable def i_slices_SortFunc_LLValue_LValue : F_slices_SortFunc_LLValue_LValue Try.prog := ⟨44, i_math_bits_Len, i_slices_pdqsortCmpFunc_LValue, ⟨Try.f44, Try.f44.body.getD .skip, Try.func44, by kernel_rfl, by kernel_rfl, by kernel_rfl, by kernel_rfl, by kernel_rfl⟩⟩
noncomputable def i_window_partitions : F_window_partitions Try.prog := ⟨23, i_schema_Pick, i_window_fingerprint, i_window_partitions_1, i_slices_SortFunc_LLValue_LValue, ⟨Try.f23, Try.f23.body.getD .skip, Try.func23, by kernel_rfl, by kernel_rfl, by kernel_rfl, by kernel_rfl, by kernel_rfl⟩⟩
noncomputable def i_window_column_1 : F_window_column_1 Try.prog := ⟨47, i_window_cell, ⟨Try.f47, Try.f47.body.getD .skip, Try.func47, by kernel_rfl, by kernel_rfl, by kernel_rfl, by kernel_rfl, by kernel_rfl⟩⟩
noncomputable def i_window_integer : F_window_integer Try.prog := ⟨48, ⟨Try.f48, Try.f48.body.getD .skip, Try.func48, by kernel_rfl, by kernel_rfl, by kernel_rfl, by kernel_rfl, by kernel_rfl⟩⟩
noncomputable def i_window_column : F_window_column Try.prog := ⟨24, i_window_column_1, i_window_integer, i_schema_Pick, i_value_CompareRows, ⟨Try.f24, Try.f24.body.getD .skip, Try.func24, by kernel_rfl, by kernel_rfl, by kernel_rfl, by kernel_rfl, by kernel_rfl⟩⟩
noncomputable def i_slices_Clone_LEntry_Entry : F_slices_Clone_LEntry_Entry Try.prog := ⟨76, ⟨Try.f76, Try.f76.body.getD .skip, Try.func76, by kernel_rfl, by kernel_rfl, by kernel_rfl, by kernel_rfl, by kernel_rfl⟩⟩
noncomputable def i_slices_insertionSortCmpFunc_Entry : F_slices_insertionSortCmpFunc_Entry Try.prog := ⟨107, ⟨Try.f107, Try.f107.body.getD .skip, Try.func107, by kernel_rfl, by kernel_rfl, by kernel_rfl, by kernel_rfl, by kernel_rfl⟩⟩
noncomputable def i_slices_siftDownCmpFunc_Entry : F_slices_siftDownCmpFunc_Entry Try.prog := ⟨117, ⟨Try.f117, Try.f117.body.getD .skip, Try.func117, by kernel_rfl, by kernel_rfl, by kernel_rfl, by kernel_rfl, by kernel_rfl⟩⟩
noncomputable def i_slices_heapSortCmpFunc_Entry : F_slices_heapSortCmpFunc_Entry Try.prog := ⟨108, i_slices_siftDownCmpFunc_Entry, ⟨Try.f108, Try.f108.body.getD .skip, Try.func108, by kernel_rfl, by kernel_rfl, by kernel_rfl, by kernel_rfl, by kernel_rfl⟩⟩
noncomputable def i_slices_breakPatternsCmpFunc_Entry : F_slices_breakPatternsCmpFunc_Entry Try.prog := ⟨109, i_slices_nextPowerOfTwo, i_slices_xorshift_Next, ⟨Try.f109, Try.f109.body.getD .skip, Try.func109, by kernel_rfl, by kernel_rfl, by kernel_rfl, by kernel_rfl, by kernel_rfl⟩⟩
noncomputable def i_slices_order2CmpFunc_Entry : F_slices_order2CmpFunc_Entry Try.prog := ⟨120, ⟨Try.f120, Try.f120.body.getD .skip, Try.func120, by kernel_rfl, by kernel_rfl, by kernel_rfl, by kernel_rfl, by kernel_rfl⟩⟩
noncomputable def i_slices_medianCmpFunc_Entry : F_slices_medianCmpFunc_Entry Try.prog := ⟨119, i_slices_order2CmpFunc_Entry, ⟨Try.f119, Try.f119.body.getD .skip, Try.func119, by kernel_rfl, by kernel_rfl, by kernel_rfl, by kernel_rfl, by kernel_rfl⟩⟩
noncomputable def i_slices_medianAdjacentCmpFunc_Entry : F_slices_medianAdjacentCmpFunc_Entry Try.prog := ⟨118, i_slices_medianCmpFunc_Entry, ⟨Try.f118, Try.f118.body.getD .skip, Try.func118, by kernel_rfl, by kernel_rfl, by kernel_rfl, by kernel_rfl, by kernel_rfl⟩⟩
noncomputable def i_slices_choosePivotCmpFunc_Entry : F_slices_choosePivotCmpFunc_Entry Try.prog := ⟨110, i_slices_medianAdjacentCmpFunc_Entry, i_slices_medianCmpFunc_Entry, ⟨Try.f110, Try.f110.body.getD .skip, Try.func110, by kernel_rfl, by kernel_rfl, by kernel_rfl, by kernel_rfl, by kernel_rfl⟩⟩
noncomputable def i_slices_reverseRangeCmpFunc_Entry : F_slices_reverseRangeCmpFunc_Entry Try.prog := ⟨111, ⟨Try.f111, Try.f111.body.getD .skip, Try.func111, by kernel_rfl, by kernel_rfl, by kernel_rfl, by kernel_rfl, by kernel_rfl⟩⟩
noncomputable def i_slices_partialInsertionSortCmpFunc_Entry : F_slices_partialInsertionSortCmpFunc_Entry Try.prog := ⟨112, ⟨Try.f112, Try.f112.body.getD .skip, Try.func112, by kernel_rfl, by kernel_rfl, by kernel_rfl, by kernel_rfl, by kernel_rfl⟩⟩
noncomputable def i_slices_partitionEqualCmpFunc_Entry : F_slices_partitionEqualCmpFunc_Entry Try.prog := ⟨113, ⟨Try.f113, Try.f113.body.getD .skip, Try.func113, by kernel_rfl, by kernel_rfl, by kernel_rfl, by kernel_rfl, by kernel_rfl⟩⟩
noncomputable def i_slices_partitionCmpFunc_Entry : F_slices_partitionCmpFunc_Entry Try.prog := ⟨114, ⟨Try.f114, Try.f114.body.getD .skip, Try.func114, by kernel_rfl, by kernel_rfl, by kernel_rfl, by kernel_rfl, by kernel_rfl⟩⟩
noncomputable def i_slices_pdqsortCmpFunc_Entry : F_slices_pdqsortCmpFunc_Entry Try.prog := ⟨98, i_slices_insertionSortCmpFunc_Entry, i_slices_heapSortCmpFunc_Entry, i_slices_breakPatternsCmpFunc_Entry, i_slices_choosePivotCmpFunc_Entry, i_slices_reverseRangeCmpFunc_Entry, i_slices_partialInsertionSortCmpFunc_Entry, i_slices_partitionEqualCmpFunc_Entry, i_slices_partitionCmpFunc_Entry, ⟨Try.f98, Try.f98.body.getD .skip, Try.func98, by kernel_rfl, by kernel_rfl, by kernel_rfl, by kernel_rfl, by kernel_rfl⟩⟩
noncomputable def i_slices_SortFunc_LEntry_Entry : F_slices_SortFunc_LEntry_Entry Try.prog := ⟨77, i_math_bits_Len, i_slices_pdqsortCmpFunc_Entry, ⟨Try.f77, Try.f77.body.getD .skip, Try.func77, by kernel_rfl, by kernel_rfl, by kernel_rfl, by kernel_rfl, by kernel_rfl⟩⟩
noncomputable def i_bag_sum_1 : F_bag_sum_1 Try.prog := ⟨78, i_value_CompareRows, ⟨Try.f78, Try.f78.body.getD .skip, Try.func78, by kernel_rfl, by kernel_rfl, by kernel_rfl, by kernel_rfl, by kernel_rfl⟩⟩
noncomputable def i_bag_put : F_bag_put Try.prog := ⟨79, i_slices_Clone_LValue_Value, ⟨Try.f79, Try.f79.body.getD .skip, Try.func79, by kernel_rfl, by kernel_rfl, by kernel_rfl, by kernel_rfl, by kernel_rfl⟩⟩
noncomputable def i_bag_done : F_bag_done Try.prog := ⟨80, ⟨Try.f80, Try.f80.body.getD .skip, Try.func80, by kernel_rfl, by kernel_rfl, by kernel_rfl, by kernel_rfl, by kernel_rfl⟩⟩
noncomputable def i_bag_sum : F_bag_sum Try.prog := ⟨50, i_slices_Clone_LEntry_Entry, i_slices_SortFunc_LEntry_Entry, i_bag_sum_1, i_value_CompareRows, i_bag_put, i_bag_done, ⟨Try.f50, Try.f50.body.getD .skip, Try.func50, by kernel_rfl, by kernel_rfl, by kernel_rfl, by kernel_rfl, by kernel_rfl⟩⟩
noncomputable def i_bag_Normalize : F_bag_Normalize Try.prog := ⟨26, i_bag_formed, i_bag_sum, ⟨Try.f26, Try.f26.body.getD .skip, Try.func26, by kernel_rfl, by kernel_rfl, by kernel_rfl, by kernel_rfl, by kernel_rfl⟩⟩
noncomputable def i_window_Apply : F_window_Apply Try.prog := ⟨9, i_bag_Expand, i_window_check, i_window_partitions, i_window_column, i_slices_Clone_LValue_Value, i_bag_Normalize, ⟨Try.f9, Try.f9.body.getD .skip, Try.func9, by kernel_rfl, by kernel_rfl, by kernel_rfl, by kernel_rfl, by kernel_rfl⟩⟩
noncomputable def i_warehouselaw18_known : F_warehouselaw18_known Try.prog := ⟨8, i_window_Apply, ⟨Try.f8, Try.f8.body.getD .skip, Try.func8, by kernel_rfl, by kernel_rfl, by kernel_rfl, by kernel_rfl, by kernel_rfl⟩⟩
noncomputable def i_warehouselaw18_WindowMirrors : F_warehouselaw18_WindowMirrors Try.prog := ⟨7, i_warehouselaw18_table, i_warehouselaw18_places, i_window_Apply, i_warehouselaw18_known, ⟨Try.f7, Try.f7.body.getD .skip, Try.func7, by kernel_rfl, by kernel_rfl, by kernel_rfl, by kernel_rfl, by kernel_rfl⟩⟩
/-- The numbers of the library's sort in this program. -/
def layRen : Go.Shelf.Ren := ⟨fun | 6 => 77 | 15 => 72 | 14 => 98 | 28 => 93 | 29 => 94 | 20 => 107 | 21 => 108 | 22 => 109 | 23 => 110 | 24 => 111 | 25 => 112 | 26 => 113 | 27 => 114 | 46 => 117 | 47 => 101 | 48 => 102 | 49 => 118 | 50 => 119 | 57 => 120 | n => n, fun | 22 => 24 | 24 => 28 | 25 => 102 | 3 => 3 | 39 => 38 | 0 => 0 | 53 => 116 | 55 => 118 | 4 => 4 | 46 => 110 | 45 => 109 | 50 => 80 | 5 => 5 | 9 => 9 | 66 => 123 | 70 => 127 | 76 => 137 | 77 => 138 | n => n, fun | n => n⟩
/-- The library's sort stands in this program. -/
theorem lay : Go.Proofs.SlLaysF0.n6 Try.prog layRen where
  mixed := by kernel_rfl
  f6 := ⟨ "slices.SortFunc[[]warehouse/api.Entry,warehouse/api.Entry]", by decide, Try.func77.trans (congrArg some (by kernel_rfl))⟩
  f14 := ⟨ "slices.pdqsortCmpFunc[warehouse/api.Entry]", by decide, Try.func98.trans (congrArg some (by kernel_rfl))⟩
  f15 := Try.func72.trans (congrArg some (by kernel_rfl))
  f20 := ⟨ "slices.insertionSortCmpFunc[warehouse/api.Entry]", by decide, Try.func107.trans (congrArg some (by kernel_rfl))⟩
  f21 := ⟨ "slices.heapSortCmpFunc[warehouse/api.Entry]", by decide, Try.func108.trans (congrArg some (by kernel_rfl))⟩
  f22 := ⟨ "slices.breakPatternsCmpFunc[warehouse/api.Entry]", by decide, Try.func109.trans (congrArg some (by kernel_rfl))⟩
  f23 := ⟨ "slices.choosePivotCmpFunc[warehouse/api.Entry]", by decide, Try.func110.trans (congrArg some (by kernel_rfl))⟩
  f24 := ⟨ "slices.reverseRangeCmpFunc[warehouse/api.Entry]", by decide, Try.func111.trans (congrArg some (by kernel_rfl))⟩
  f25 := ⟨ "slices.partialInsertionSortCmpFunc[warehouse/api.Entry]", by decide, Try.func112.trans (congrArg some (by kernel_rfl))⟩
  f26 := ⟨ "slices.partitionEqualCmpFunc[warehouse/api.Entry]", by decide, Try.func113.trans (congrArg some (by kernel_rfl))⟩
  f27 := ⟨ "slices.partitionCmpFunc[warehouse/api.Entry]", by decide, Try.func114.trans (congrArg some (by kernel_rfl))⟩
  f28 := Try.func93.trans (congrArg some (by kernel_rfl))
  f29 := Try.func94.trans (congrArg some (by kernel_rfl))
  f46 := ⟨ "slices.siftDownCmpFunc[warehouse/api.Entry]", by decide, Try.func117.trans (congrArg some (by kernel_rfl))⟩
  f47 := Try.func101.trans (congrArg some (by kernel_rfl))
  f48 := Try.func102.trans (congrArg some (by kernel_rfl))
  f49 := ⟨ "slices.medianAdjacentCmpFunc[warehouse/api.Entry]", by decide, Try.func118.trans (congrArg some (by kernel_rfl))⟩
  f50 := ⟨ "slices.medianCmpFunc[warehouse/api.Entry]", by decide, Try.func119.trans (congrArg some (by kernel_rfl))⟩
  f57 := ⟨ "slices.order2CmpFunc[warehouse/api.Entry]", by decide, Try.func120.trans (congrArg some (by kernel_rfl))⟩
  t0 := Try.underlying0
  a0 := Try.isAgg0
  z0 := Try.sizeOf0
  v0 := Try.zeroValue0
  t3 := Try.underlying3
  a3 := Try.isAgg3
  z3 := Try.sizeOf3
  v3 := Try.zeroValue3
  t4 := Try.underlying4
  a4 := Try.isAgg4
  z4 := Try.sizeOf4
  v4 := Try.zeroValue4
  t5 := Try.underlying5
  a5 := Try.isAgg5
  z5 := Try.sizeOf5
  v5 := Try.zeroValue5
  t9 := Try.underlying9
  a9 := Try.isAgg9
  z9 := Try.sizeOf9
  v9 := Try.zeroValue9
  t22 := Try.underlying24
  a22 := Try.isAgg24
  z22 := Try.sizeOf24
  v22 := Try.zeroValue24
  t25 := Try.underlying102
  a25 := Try.isAgg102
  z25 := Try.sizeOf102
  v25 := Try.zeroValue102
  t39 := Try.underlying38
  a39 := Try.isAgg38
  z39 := Try.sizeOf38
  v39 := Try.zeroValue38
  t45 := Try.underlying109
  a45 := Try.isAgg109
  z45 := Try.sizeOf109
  v45 := Try.zeroValue109
  t46 := Try.underlying110
  a46 := Try.isAgg110
  z46 := Try.sizeOf110
  v46 := Try.zeroValue110
  t50 := Try.underlying80
  a50 := Try.isAgg80
  z50 := Try.sizeOf80
  v50 := Try.zeroValue80
  t53 := Try.underlying116
  a53 := Try.isAgg116
  z53 := Try.sizeOf116
  v53 := Try.zeroValue116
  t55 := Try.underlying118
  a55 := Try.isAgg118
  z55 := Try.sizeOf118
  v55 := Try.zeroValue118
  t66 := Try.underlying123
  a66 := Try.isAgg123
  z66 := Try.sizeOf123
  v66 := Try.zeroValue123
  t70 := Try.underlying127
  a70 := Try.isAgg127
  z70 := Try.sizeOf127
  v70 := Try.zeroValue127
  t76 := Try.underlying137
  a76 := Try.isAgg137
  z76 := Try.sizeOf137
  v76 := Try.zeroValue137
  t77 := Try.underlying138
  a77 := Try.isAgg138
  z77 := Try.sizeOf138
  v77 := Try.zeroValue138
theorem srt : SortE Try.prog 77 78 := sortE_of lay Try.isAgg28 Try.sizeOf28 i_bag_sum_1
/-- The numbers of the library's sort in this program. -/
def layRenR : Go.Shelf.Ren := ⟨fun | 6 => 44 | 15 => 72 | 14 => 71 | 28 => 93 | 29 => 94 | 20 => 85 | 21 => 86 | 22 => 87 | 23 => 88 | 24 => 89 | 25 => 90 | 26 => 91 | 27 => 92 | 46 => 100 | 47 => 101 | 48 => 102 | 49 => 103 | 50 => 104 | 57 => 116 | n => n, fun | 22 => 54 | 24 => 26 | 25 => 73 | 3 => 3 | 39 => 38 | 0 => 0 | 53 => 116 | 55 => 118 | 4 => 4 | 46 => 110 | 45 => 109 | 50 => 80 | 5 => 5 | 9 => 9 | 66 => 123 | 70 => 127 | 76 => 137 | 77 => 138 | n => n, fun | n => n⟩
/-- The library's sort stands in this program. -/
theorem layR : Go.Proofs.SlLaysF.n6 Try.prog layRenR where
  mixed := by kernel_rfl
  f6 := ⟨ "slices.SortFunc[[][]warehouse/api.Value,[]warehouse/api.Value]", by decide, Try.func44.trans (congrArg some (by kernel_rfl))⟩
  f14 := ⟨ "slices.pdqsortCmpFunc[[]warehouse/api.Value]", by decide, Try.func71.trans (congrArg some (by kernel_rfl))⟩
  f15 := Try.func72.trans (congrArg some (by kernel_rfl))
  f20 := ⟨ "slices.insertionSortCmpFunc[[]warehouse/api.Value]", by decide, Try.func85.trans (congrArg some (by kernel_rfl))⟩
  f21 := ⟨ "slices.heapSortCmpFunc[[]warehouse/api.Value]", by decide, Try.func86.trans (congrArg some (by kernel_rfl))⟩
  f22 := ⟨ "slices.breakPatternsCmpFunc[[]warehouse/api.Value]", by decide, Try.func87.trans (congrArg some (by kernel_rfl))⟩
  f23 := ⟨ "slices.choosePivotCmpFunc[[]warehouse/api.Value]", by decide, Try.func88.trans (congrArg some (by kernel_rfl))⟩
  f24 := ⟨ "slices.reverseRangeCmpFunc[[]warehouse/api.Value]", by decide, Try.func89.trans (congrArg some (by kernel_rfl))⟩
  f25 := ⟨ "slices.partialInsertionSortCmpFunc[[]warehouse/api.Value]", by decide, Try.func90.trans (congrArg some (by kernel_rfl))⟩
  f26 := ⟨ "slices.partitionEqualCmpFunc[[]warehouse/api.Value]", by decide, Try.func91.trans (congrArg some (by kernel_rfl))⟩
  f27 := ⟨ "slices.partitionCmpFunc[[]warehouse/api.Value]", by decide, Try.func92.trans (congrArg some (by kernel_rfl))⟩
  f28 := Try.func93.trans (congrArg some (by kernel_rfl))
  f29 := Try.func94.trans (congrArg some (by kernel_rfl))
  f46 := ⟨ "slices.siftDownCmpFunc[[]warehouse/api.Value]", by decide, Try.func100.trans (congrArg some (by kernel_rfl))⟩
  f47 := Try.func101.trans (congrArg some (by kernel_rfl))
  f48 := Try.func102.trans (congrArg some (by kernel_rfl))
  f49 := ⟨ "slices.medianAdjacentCmpFunc[[]warehouse/api.Value]", by decide, Try.func103.trans (congrArg some (by kernel_rfl))⟩
  f50 := ⟨ "slices.medianCmpFunc[[]warehouse/api.Value]", by decide, Try.func104.trans (congrArg some (by kernel_rfl))⟩
  f57 := ⟨ "slices.order2CmpFunc[[]warehouse/api.Value]", by decide, Try.func116.trans (congrArg some (by kernel_rfl))⟩
  t0 := Try.underlying0
  a0 := Try.isAgg0
  z0 := Try.sizeOf0
  v0 := Try.zeroValue0
  t3 := Try.underlying3
  a3 := Try.isAgg3
  z3 := Try.sizeOf3
  v3 := Try.zeroValue3
  t4 := Try.underlying4
  a4 := Try.isAgg4
  z4 := Try.sizeOf4
  v4 := Try.zeroValue4
  t5 := Try.underlying5
  a5 := Try.isAgg5
  z5 := Try.sizeOf5
  v5 := Try.zeroValue5
  t9 := Try.underlying9
  a9 := Try.isAgg9
  z9 := Try.sizeOf9
  v9 := Try.zeroValue9
  t22 := Try.underlying54
  a22 := Try.isAgg54
  z22 := Try.sizeOf54
  v22 := Try.zeroValue54
  a24 := Try.isAgg26
  z24 := Try.sizeOf26
  t25 := Try.underlying73
  a25 := Try.isAgg73
  z25 := Try.sizeOf73
  v25 := Try.zeroValue73
  t39 := Try.underlying38
  a39 := Try.isAgg38
  z39 := Try.sizeOf38
  v39 := Try.zeroValue38
  t45 := Try.underlying109
  a45 := Try.isAgg109
  z45 := Try.sizeOf109
  v45 := Try.zeroValue109
  t46 := Try.underlying110
  a46 := Try.isAgg110
  z46 := Try.sizeOf110
  v46 := Try.zeroValue110
  t50 := Try.underlying80
  a50 := Try.isAgg80
  z50 := Try.sizeOf80
  v50 := Try.zeroValue80
  t53 := Try.underlying116
  a53 := Try.isAgg116
  z53 := Try.sizeOf116
  v53 := Try.zeroValue116
  t55 := Try.underlying118
  a55 := Try.isAgg118
  z55 := Try.sizeOf118
  v55 := Try.zeroValue118
  t66 := Try.underlying123
  a66 := Try.isAgg123
  z66 := Try.sizeOf123
  v66 := Try.zeroValue123
  t70 := Try.underlying127
  a70 := Try.isAgg127
  z70 := Try.sizeOf127
  v70 := Try.zeroValue127
  t76 := Try.underlying137
  a76 := Try.isAgg137
  z76 := Try.sizeOf137
  v76 := Try.zeroValue137
  t77 := Try.underlying138
  a77 := Try.isAgg138
  z77 := Try.sizeOf138
  v77 := Try.zeroValue138
theorem srtR : SortR Try.prog 44 45 := sortR_of layR i_window_partitions_1

theorem lifted (os : Os) (started : os.Started) (H : Type) (enc : TypeId × Value → H) :
    ReturnsInHanded {} Try.checked os 7 .any (Rows.windowMirrorsSpec.pre6 enc Try.prog Try.f7 Rows.windowMirrorsRow.domain false) (Rows.windowMirrorsSpec.post enc Try.prog Try.f7 false true false false) := by
  refine lifted_of_law (C := Try.checked) (n := 7) (tb := 4) (shs := [(false, [.slice [.int .i64]]), (false, [.int .i64])]) own started (by kernel_rfl) Try.func7
    (ChangeSpec.witness6 (enc := enc) (C := Try.checked) false ⟨#[], #[.slice none 0 0, .int .i64 0], []⟩ 8 (by kernel_rfl) (by kernel_rfl) (by kernel_rfl) (by kernel_rfl))
    laidOut (by kernel_rfl) (fun ds hd => ?_) rfl (by kernel_rfl) Try.underlying4 (by kernel_rfl) i_warehouselaw18_WindowMirrors.has ?_
  · have hd : ds.length = 2 := hd.trans (by kernel_rfl)
    obtain ⟨d0, d1, rfl⟩ : ∃ d0 d1, ds = [d0, d1] := by
      match ds, hd with
      | [d0, d1], _ => exact ⟨d0, d1, rfl⟩
    rfl
  · intro xs h
    obtain ⟨y0, xs, rfl, p0, h⟩ := argsOk_cons h
    obtain ⟨y1, xs, rfl, p1, h⟩ := argsOk_cons h
    cases argsOk_nil h
    obtain ⟨x0, rfl, h0a, h0b⟩ := argOk_ints p0
    obtain ⟨x1, rfl, h1a⟩ := argOk_int p1
    first
      | exact law_WindowMirrors i_warehouselaw18_WindowMirrors srt srtR srt srtR x0 x1
      | exact law_WindowMirrors i_warehouselaw18_WindowMirrors srt srtR srt srtR x0 x1 h0a h0b h1a

theorem over : Rows.windowMirrorsRow.holds Try.pinned (OpenSpec.ofChange Rows.windowMirrorsSpec) :=
  OpenClaim.holds_of_wide 7 Try.f7 rfl rfl rfl rfl rfl rfl rfl ⟨rfl, rfl, rfl, rfl, rfl⟩ rfl rfl rfl rfl rfl (by kernel_rfl) Try.func7 (by kernel_rfl)
    (of_decide_eq_true (by kernel_rfl)) (by unfold Func.isWrapper; first | (rw [if_pos (by decide +kernel)]; kernel_rfl) | (rw [if_neg (by decide +kernel)]; exact ⟨rfl, rfl⟩))
    (fun os started H enc _ => lifted os started H enc)

theorem proved : Rows.WindowMirrorsSaid := over
#print axioms proved
end Go.Proofs.Ytgmobjimfalhoaa.windowMirrors
