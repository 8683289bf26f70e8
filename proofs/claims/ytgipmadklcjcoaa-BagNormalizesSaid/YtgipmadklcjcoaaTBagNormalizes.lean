/-
  The law BagNormalizes holds for every input.
  No condition.
-/
import Derived.Test.YtgipmadklcjcoaaRows
import Derived.Test.YtgipmadklcjcoaaZ5
import Derived.KernelRfl
import Derived.ProofKit
import Derived.WalkKit
namespace Go.Proofs.Ytgipmadklcjcoaa.bagNormalizes
open Go.AW Go.ChangeShapes Go.WideShapes Go.ChangeAt Go.RowKit
set_option linter.unusedVariables false
set_option maxRecDepth 100000

theorem own : ownKnob Try.prog.godebug = none := by kernel_rfl
theorem laidOut : laidOutB Try.prog = true := by kernel_rfl

noncomputable def i_warehouselaw6_light : F_warehouselaw6_light Try.prog := ⟨12, ⟨Try.f12, Try.f12.body.getD .skip, Try.func12, by kernel_rfl, by kernel_rfl, by kernel_rfl, by kernel_rfl, by kernel_rfl⟩⟩
noncomputable def i_warehouselaw6_one : F_warehouselaw6_one Try.prog := ⟨43, ⟨Try.f43, Try.f43.body.getD .skip, Try.func43, by kernel_rfl, by kernel_rfl, by kernel_rfl, by kernel_rfl, by kernel_rfl⟩⟩
noncomputable def i_value_Valid : F_value_Valid Try.prog := ⟨71, ⟨Try.f71, Try.f71.body.getD .skip, Try.func71, by kernel_rfl, by kernel_rfl, by kernel_rfl, by kernel_rfl, by kernel_rfl⟩⟩
noncomputable def i_bag_formed : F_bag_formed Try.prog := ⟨49, i_value_Valid, ⟨Try.f49, Try.f49.body.getD .skip, Try.func49, by kernel_rfl, by kernel_rfl, by kernel_rfl, by kernel_rfl, by kernel_rfl⟩⟩
noncomputable def i_slices_Clone_LEntry_Entry : F_slices_Clone_LEntry_Entry Try.prog := ⟨72, ⟨Try.f72, Try.f72.body.getD .skip, Try.func72, by kernel_rfl, by kernel_rfl, by kernel_rfl, by kernel_rfl, by kernel_rfl⟩⟩
noncomputable def i_math_bits_Len32 : F_math_bits_Len32 Try.prog := ⟨96, ⟨Try.f96, Try.f96.body.getD .skip, Try.func96, by kernel_rfl, by kernel_rfl, by kernel_rfl, by kernel_rfl, by kernel_rfl⟩⟩
noncomputable def i_math_bits_Len64 : F_math_bits_Len64 Try.prog := ⟨97, ⟨Try.f97, Try.f97.body.getD .skip, Try.func97, by kernel_rfl, by kernel_rfl, by kernel_rfl, by kernel_rfl, by kernel_rfl⟩⟩
noncomputable def i_math_bits_Len : F_math_bits_Len Try.prog := ⟨84, i_math_bits_Len32, i_math_bits_Len64, ⟨Try.f84, Try.f84.body.getD .skip, Try.func84, by kernel_rfl, by kernel_rfl, by kernel_rfl, by kernel_rfl, by kernel_rfl⟩⟩
noncomputable def i_slices_insertionSortCmpFunc_Entry : F_slices_insertionSortCmpFunc_Entry Try.prog := ⟨88, ⟨Try.f88, Try.f88.body.getD .skip, Try.func88, by kernel_rfl, by kernel_rfl, by kernel_rfl, by kernel_rfl, by kernel_rfl⟩⟩
noncomputable def i_slices_siftDownCmpFunc_Entry : F_slices_siftDownCmpFunc_Entry Try.prog := ⟨100, ⟨Try.f100, Try.f100.body.getD .skip, Try.func100, by kernel_rfl, by kernel_rfl, by kernel_rfl, by kernel_rfl, by kernel_rfl⟩⟩
noncomputable def i_slices_heapSortCmpFunc_Entry : F_slices_heapSortCmpFunc_Entry Try.prog := ⟨89, i_slices_siftDownCmpFunc_Entry, ⟨Try.f89, Try.f89.body.getD .skip, Try.func89, by kernel_rfl, by kernel_rfl, by kernel_rfl, by kernel_rfl, by kernel_rfl⟩⟩
noncomputable def i_slices_nextPowerOfTwo : F_slices_nextPowerOfTwo Try.prog := ⟨101, i_math_bits_Len, ⟨Try.f101, Try.f101.body.getD .skip, Try.func101, by kernel_rfl, by kernel_rfl, by kernel_rfl, by kernel_rfl, by kernel_rfl⟩⟩
noncomputable def i_slices_xorshift_Next : F_slices_xorshift_Next Try.prog := ⟨102, ⟨Try.f102, Try.f102.body.getD .skip, Try.func102, by kernel_rfl, by kernel_rfl, by kernel_rfl, by kernel_rfl, by kernel_rfl⟩⟩
noncomputable def i_slices_breakPatternsCmpFunc_Entry : F_slices_breakPatternsCmpFunc_Entry Try.prog := ⟨90, i_slices_nextPowerOfTwo, i_slices_xorshift_Next, ⟨Try.f90, Try.f90.body.getD .skip, Try.func90, by kernel_rfl, by kernel_rfl, by kernel_rfl, by kernel_rfl, by kernel_rfl⟩⟩
noncomputable def i_slices_order2CmpFunc_Entry : F_slices_order2CmpFunc_Entry Try.prog := ⟨105, ⟨Try.f105, Try.f105.body.getD .skip, Try.func105, by kernel_rfl, by kernel_rfl, by kernel_rfl, by kernel_rfl, by kernel_rfl⟩⟩
noncomputable def i_slices_medianCmpFunc_Entry : F_slices_medianCmpFunc_Entry Try.prog := ⟨104, i_slices_order2CmpFunc_Entry, ⟨Try.f104, Try.f104.body.getD .skip, Try.func104, by kernel_rfl, by kernel_rfl, by kernel_rfl, by kernel_rfl, by kernel_rfl⟩⟩
noncomputable def i_slices_medianAdjacentCmpFunc_Entry : F_slices_medianAdjacentCmpFunc_Entry Try.prog := ⟨103, i_slices_medianCmpFunc_Entry, ⟨Try.f103, Try.f103.body.getD .skip, Try.func103, by kernel_rfl, by kernel_rfl, by kernel_rfl, by kernel_rfl, by kernel_rfl⟩⟩
noncomputable def i_slices_choosePivotCmpFunc_Entry : F_slices_choosePivotCmpFunc_Entry Try.prog := ⟨91, i_slices_medianAdjacentCmpFunc_Entry, i_slices_medianCmpFunc_Entry, ⟨Try.f91, Try.f91.body.getD .skip, Try.func91, by kernel_rfl, by kernel_rfl, by kernel_rfl, by kernel_rfl, by kernel_rfl⟩⟩
noncomputable def i_slices_reverseRangeCmpFunc_Entry : F_slices_reverseRangeCmpFunc_Entry Try.prog := ⟨92, ⟨Try.f92, Try.f92.body.getD .skip, Try.func92, by kernel_rfl, by kernel_rfl, by kernel_rfl, by kernel_rfl, by kernel_rfl⟩⟩
noncomputable def i_slices_partialInsertionSortCmpFunc_Entry : F_slices_partialInsertionSortCmpFunc_Entry Try.prog := ⟨93, ⟨Try.f93, Try.f93.body.getD .skip, Try.func93, by kernel_rfl, by kernel_rfl, by kernel_rfl, by kernel_rfl, by kernel_rfl⟩⟩
noncomputable def i_slices_partitionEqualCmpFunc_Entry : F_slices_partitionEqualCmpFunc_Entry Try.prog := ⟨94, ⟨Try.f94, Try.f94.body.getD .skip, Try.func94, by kernel_rfl, by kernel_rfl, by kernel_rfl, by kernel_rfl, by kernel_rfl⟩⟩
noncomputable def i_slices_partitionCmpFunc_Entry : F_slices_partitionCmpFunc_Entry Try.prog := ⟨95, ⟨Try.f95, Try.f95.body.getD .skip, Try.func95, by kernel_rfl, by kernel_rfl, by kernel_rfl, by kernel_rfl, by kernel_rfl⟩⟩
noncomputable def i_slices_pdqsortCmpFunc_Entry : F_slices_pdqsortCmpFunc_Entry Try.prog := ⟨83, i_slices_insertionSortCmpFunc_Entry, i_slices_heapSortCmpFunc_Entry, i_slices_breakPatternsCmpFunc_Entry, i_slices_choosePivotCmpFunc_Entry, i_slices_reverseRangeCmpFunc_Entry, i_slices_partialInsertionSortCmpFunc_Entry, i_slices_partitionEqualCmpFunc_Entry, i_slices_partitionCmpFunc_Entry, ⟨Try.f83, Try.f83.body.getD .skip, Try.func83, by kernel_rfl, by kernel_rfl, by kernel_rfl, by kernel_rfl, by kernel_rfl⟩⟩
noncomputable def i_slices_SortFunc_LEntry_Entry : F_slices_SortFunc_LEntry_Entry Try.prog := ⟨73, i_math_bits_Len, i_slices_pdqsortCmpFunc_Entry, ⟨Try.f73, Try.f73.body.getD .skip, Try.func73, by kernel_rfl, by kernel_rfl, by kernel_rfl, by kernel_rfl, by kernel_rfl⟩⟩
noncomputable def i_slices_CompareFunc_LValue_Value : F_slices_CompareFunc_LValue_Value Try.prog := ⟨79, ⟨Try.f79, Try.f79.body.getD .skip, Try.func79, by kernel_rfl, by kernel_rfl, by kernel_rfl, by kernel_rfl, by kernel_rfl⟩⟩
noncomputable def i_cmp_isNaN_int : F_cmp_isNaN_int Try.prog := ⟨98, ⟨Try.f98, Try.f98.body.getD .skip, Try.func98, by kernel_rfl, by kernel_rfl, by kernel_rfl, by kernel_rfl, by kernel_rfl⟩⟩
noncomputable def i_cmp_Compare_int : F_cmp_Compare_int Try.prog := ⟨86, i_cmp_isNaN_int, ⟨Try.f86, Try.f86.body.getD .skip, Try.func86, by kernel_rfl, by kernel_rfl, by kernel_rfl, by kernel_rfl, by kernel_rfl⟩⟩
noncomputable def i_cmp_isNaN_string : F_cmp_isNaN_string Try.prog := ⟨99, ⟨Try.f99, Try.f99.body.getD .skip, Try.func99, by kernel_rfl, by kernel_rfl, by kernel_rfl, by kernel_rfl, by kernel_rfl⟩⟩
noncomputable def i_cmp_Compare_string : F_cmp_Compare_string Try.prog := ⟨87, i_cmp_isNaN_string, ⟨Try.f87, Try.f87.body.getD .skip, Try.func87, by kernel_rfl, by kernel_rfl, by kernel_rfl, by kernel_rfl, by kernel_rfl⟩⟩
noncomputable def i_cmp_Or_int : F_cmp_Or_int Try.prog := ⟨85, ⟨Try.f85, Try.f85.body.getD .skip, Try.func85, by kernel_rfl, by kernel_rfl, by kernel_rfl, by kernel_rfl, by kernel_rfl⟩⟩
noncomputable def i_value_Compare : F_value_Compare Try.prog := ⟨80, i_cmp_Compare_int, i_cmp_Compare_string, i_cmp_Or_int, ⟨Try.f80, Try.f80.body.getD .skip, Try.func80, by kernel_rfl, by kernel_rfl, by kernel_rfl, by kernel_rfl, by kernel_rfl⟩⟩
noncomputable def i_value_CompareRows : F_value_CompareRows Try.prog := ⟨60, i_slices_CompareFunc_LValue_Value, i_value_Compare, ⟨Try.f60, Try.f60.body.getD .skip, Try.func60, by kernel_rfl, by kernel_rfl, by kernel_rfl, by kernel_rfl, by kernel_rfl⟩⟩
noncomputable def i_bag_sum_1 : F_bag_sum_1 Try.prog := ⟨74, i_value_CompareRows, ⟨Try.f74, Try.f74.body.getD .skip, Try.func74, by kernel_rfl, by kernel_rfl, by kernel_rfl, by kernel_rfl, by kernel_rfl⟩⟩
noncomputable def i_slices_Clone_LValue_Value : F_slices_Clone_LValue_Value Try.prog := ⟨64, ⟨Try.f64, Try.f64.body.getD .skip, Try.func64, by kernel_rfl, by kernel_rfl, by kernel_rfl, by kernel_rfl, by kernel_rfl⟩⟩
noncomputable def i_bag_put : F_bag_put Try.prog := ⟨67, i_slices_Clone_LValue_Value, ⟨Try.f67, Try.f67.body.getD .skip, Try.func67, by kernel_rfl, by kernel_rfl, by kernel_rfl, by kernel_rfl, by kernel_rfl⟩⟩
noncomputable def i_bag_done : F_bag_done Try.prog := ⟨75, ⟨Try.f75, Try.f75.body.getD .skip, Try.func75, by kernel_rfl, by kernel_rfl, by kernel_rfl, by kernel_rfl, by kernel_rfl⟩⟩
noncomputable def i_bag_sum : F_bag_sum Try.prog := ⟨50, i_slices_Clone_LEntry_Entry, i_slices_SortFunc_LEntry_Entry, i_bag_sum_1, i_value_CompareRows, i_bag_put, i_bag_done, ⟨Try.f50, Try.f50.body.getD .skip, Try.func50, by kernel_rfl, by kernel_rfl, by kernel_rfl, by kernel_rfl, by kernel_rfl⟩⟩
noncomputable def i_bag_Normalize : F_bag_Normalize Try.prog := ⟨16, i_bag_formed, i_bag_sum, ⟨Try.f16, Try.f16.body.getD .skip, Try.func16, by kernel_rfl, by kernel_rfl, by kernel_rfl, by kernel_rfl, by kernel_rfl⟩⟩
noncomputable def i_bag_Validate : F_bag_Validate Try.prog := ⟨30, i_bag_formed, i_value_CompareRows, ⟨Try.f30, Try.f30.body.getD .skip, Try.func30, by kernel_rfl, by kernel_rfl, by kernel_rfl, by kernel_rfl, by kernel_rfl⟩⟩
noncomputable def i_bag_both : F_bag_both Try.prog := ⟨54, i_bag_Validate, ⟨Try.f54, Try.f54.body.getD .skip, Try.func54, by kernel_rfl, by kernel_rfl, by kernel_rfl, by kernel_rfl, by kernel_rfl⟩⟩
noncomputable def i_bag_merge : F_bag_merge Try.prog := ⟨55, i_value_CompareRows, i_bag_put, i_bag_done, ⟨Try.f55, Try.f55.body.getD .skip, Try.func55, by kernel_rfl, by kernel_rfl, by kernel_rfl, by kernel_rfl, by kernel_rfl⟩⟩
noncomputable def i_bag_Subtract : F_bag_Subtract Try.prog := ⟨21, i_bag_both, i_bag_merge, ⟨Try.f21, Try.f21.body.getD .skip, Try.func21, by kernel_rfl, by kernel_rfl, by kernel_rfl, by kernel_rfl, by kernel_rfl⟩⟩
noncomputable def i_warehouseref1_numbers : F_warehouseref1_numbers Try.prog := ⟨66, ⟨Try.f66, Try.f66.body.getD .skip, Try.func66, by kernel_rfl, by kernel_rfl, by kernel_rfl, by kernel_rfl, by kernel_rfl⟩⟩
noncomputable def i_warehouseref1_Compare : F_warehouseref1_Compare Try.prog := ⟨65, i_warehouseref1_numbers, ⟨Try.f65, Try.f65.body.getD .skip, Try.func65, by kernel_rfl, by kernel_rfl, by kernel_rfl, by kernel_rfl, by kernel_rfl⟩⟩
noncomputable def i_warehouseref1_CompareRows : F_warehouseref1_CompareRows Try.prog := ⟨37, i_warehouseref1_Compare, i_warehouseref1_numbers, ⟨Try.f37, Try.f37.body.getD .skip, Try.func37, by kernel_rfl, by kernel_rfl, by kernel_rfl, by kernel_rfl, by kernel_rfl⟩⟩
noncomputable def i_warehouseref1_SameRow : F_warehouseref1_SameRow Try.prog := ⟨53, i_warehouseref1_CompareRows, ⟨Try.f53, Try.f53.body.getD .skip, Try.func53, by kernel_rfl, by kernel_rfl, by kernel_rfl, by kernel_rfl, by kernel_rfl⟩⟩
noncomputable def i_warehouseref6_Same : F_warehouseref6_Same Try.prog := ⟨18, i_warehouseref1_SameRow, ⟨Try.f18, Try.f18.body.getD .skip, Try.func18, by kernel_rfl, by kernel_rfl, by kernel_rfl, by kernel_rfl, by kernel_rfl⟩⟩
noncomputable def i_slices_IndexFunc_LEntry_Entry : F_slices_IndexFunc_LEntry_Entry Try.prog := ⟨81, ⟨Try.f81, Try.f81.body.getD .skip, Try.func81, by kernel_rfl, by kernel_rfl, by kernel_rfl, by kernel_rfl, by kernel_rfl⟩⟩
noncomputable def i_slices_ContainsFunc_LEntry_Entry : F_slices_ContainsFunc_LEntry_Entry Try.prog := ⟨61, i_slices_IndexFunc_LEntry_Entry, ⟨Try.f61, Try.f61.body.getD .skip, Try.func61, by kernel_rfl, by kernel_rfl, by kernel_rfl, by kernel_rfl, by kernel_rfl⟩⟩
noncomputable def i_bag_IsTable_1 : F_bag_IsTable_1 Try.prog := ⟨62, ⟨Try.f62, Try.f62.body.getD .skip, Try.func62, by kernel_rfl, by kernel_rfl, by kernel_rfl, by kernel_rfl, by kernel_rfl⟩⟩
noncomputable def i_bag_IsTable : F_bag_IsTable Try.prog := ⟨32, i_bag_Validate, i_slices_ContainsFunc_LEntry_Entry, i_bag_IsTable_1, ⟨Try.f32, Try.f32.body.getD .skip, Try.func32, by kernel_rfl, by kernel_rfl, by kernel_rfl, by kernel_rfl, by kernel_rfl⟩⟩
noncomputable def i_warehouselaw6_known : F_warehouselaw6_known Try.prog := ⟨13, i_warehouselaw6_one, i_bag_Normalize, i_bag_Subtract, i_warehouseref6_Same, i_bag_IsTable, ⟨Try.f13, Try.f13.body.getD .skip, Try.func13, by kernel_rfl, by kernel_rfl, by kernel_rfl, by kernel_rfl, by kernel_rfl⟩⟩
noncomputable def i_warehousebase_At : F_warehousebase_At Try.prog := ⟨14, ⟨Try.f14, Try.f14.body.getD .skip, Try.func14, by kernel_rfl, by kernel_rfl, by kernel_rfl, by kernel_rfl, by kernel_rfl⟩⟩
noncomputable def i_warehousebase_Moment : F_warehousebase_Moment Try.prog := ⟨70, ⟨Try.f70, Try.f70.body.getD .skip, Try.func70, by kernel_rfl, by kernel_rfl, by kernel_rfl, by kernel_rfl, by kernel_rfl⟩⟩
noncomputable def i_warehousebase_Value : F_warehousebase_Value Try.prog := ⟨48, i_warehousebase_Moment, ⟨Try.f48, Try.f48.body.getD .skip, Try.func48, by kernel_rfl, by kernel_rfl, by kernel_rfl, by kernel_rfl, by kernel_rfl⟩⟩
noncomputable def i_warehousebase_Any : F_warehousebase_Any Try.prog := ⟨15, i_warehousebase_Value, ⟨Try.f15, Try.f15.body.getD .skip, Try.func15, by kernel_rfl, by kernel_rfl, by kernel_rfl, by kernel_rfl, by kernel_rfl⟩⟩
noncomputable def i_warehouseref6_small : F_warehouseref6_small Try.prog := ⟨76, ⟨Try.f76, Try.f76.body.getD .skip, Try.func76, by kernel_rfl, by kernel_rfl, by kernel_rfl, by kernel_rfl, by kernel_rfl⟩⟩
noncomputable def i_warehouseref1_Valid : F_warehouseref1_Valid Try.prog := ⟨77, ⟨Try.f77, Try.f77.body.getD .skip, Try.func77, by kernel_rfl, by kernel_rfl, by kernel_rfl, by kernel_rfl, by kernel_rfl⟩⟩
noncomputable def i_warehouseref6_fits : F_warehouseref6_fits Try.prog := ⟨51, i_warehouseref6_small, i_warehouseref1_Valid, ⟨Try.f51, Try.f51.body.getD .skip, Try.func51, by kernel_rfl, by kernel_rfl, by kernel_rfl, by kernel_rfl, by kernel_rfl⟩⟩
noncomputable def i_warehouseref6_merge : F_warehouseref6_merge Try.prog := ⟨58, i_warehouseref1_CompareRows, ⟨Try.f58, Try.f58.body.getD .skip, Try.func58, by kernel_rfl, by kernel_rfl, by kernel_rfl, by kernel_rfl, by kernel_rfl⟩⟩
noncomputable def i_warehouseref6_sorted : F_warehouseref6_sorted Try.prog := ⟨78, i_warehouseref6_merge, ⟨Try.f78, Try.f78.body.getD .skip, Try.func78, by kernel_rfl, by kernel_rfl, by kernel_rfl, by kernel_rfl, by kernel_rfl⟩⟩
noncomputable def i_warehouseref6_result : F_warehouseref6_result Try.prog := ⟨57, i_warehouseref6_small, ⟨Try.f57, Try.f57.body.getD .skip, Try.func57, by kernel_rfl, by kernel_rfl, by kernel_rfl, by kernel_rfl, by kernel_rfl⟩⟩
noncomputable def i_warehouseref6_Sum : F_warehouseref6_Sum Try.prog := ⟨52, i_warehouseref6_sorted, i_warehouseref6_result, ⟨Try.f52, Try.f52.body.getD .skip, Try.func52, by kernel_rfl, by kernel_rfl, by kernel_rfl, by kernel_rfl, by kernel_rfl⟩⟩
noncomputable def i_warehouseref6_Normalize : F_warehouseref6_Normalize Try.prog := ⟨17, i_warehouseref6_fits, i_warehouseref6_Sum, ⟨Try.f17, Try.f17.body.getD .skip, Try.func17, by kernel_rfl, by kernel_rfl, by kernel_rfl, by kernel_rfl, by kernel_rfl⟩⟩
noncomputable def i_warehouselaw6_BagNormalizes : F_warehouselaw6_BagNormalizes Try.prog := ⟨3, i_warehouselaw6_light, i_warehouselaw6_known, i_warehousebase_At, i_warehousebase_Any, i_bag_Normalize, i_warehouseref6_Normalize, i_warehouseref6_Same, ⟨Try.f3, Try.f3.body.getD .skip, Try.func3, by kernel_rfl, by kernel_rfl, by kernel_rfl, by kernel_rfl, by kernel_rfl⟩⟩
/-- The numbers of the library's sort in this program. -/
def layRen : Go.Shelf.Ren := ⟨fun | 6 => 73 | 15 => 84 | 14 => 83 | 28 => 96 | 29 => 97 | 20 => 88 | 21 => 89 | 22 => 90 | 23 => 91 | 24 => 92 | 25 => 93 | 26 => 94 | 27 => 95 | 46 => 100 | 47 => 101 | 48 => 102 | 49 => 103 | 50 => 104 | 57 => 105 | n => n, fun | 22 => 22 | 24 => 33 | 25 => 78 | 3 => 3 | 39 => 31 | 0 => 0 | 53 => 95 | 55 => 97 | 4 => 4 | 46 => 88 | 45 => 87 | 50 => 92 | 5 => 5 | 9 => 9 | 66 => 99 | 70 => 103 | 76 => 105 | 77 => 106 | n => n, fun | n => n⟩
/-- The library's sort stands in this program. -/
theorem lay : Go.Proofs.SlLaysF0.n6 Try.prog layRen where
  mixed := by kernel_rfl
  f6 := ⟨ "slices.SortFunc[[]warehouse/api.Entry,warehouse/api.Entry]", by decide, Try.func73.trans (congrArg some (by kernel_rfl))⟩
  f14 := ⟨ "slices.pdqsortCmpFunc[warehouse/api.Entry]", by decide, Try.func83.trans (congrArg some (by kernel_rfl))⟩
  f15 := Try.func84.trans (congrArg some (by kernel_rfl))
  f20 := ⟨ "slices.insertionSortCmpFunc[warehouse/api.Entry]", by decide, Try.func88.trans (congrArg some (by kernel_rfl))⟩
  f21 := ⟨ "slices.heapSortCmpFunc[warehouse/api.Entry]", by decide, Try.func89.trans (congrArg some (by kernel_rfl))⟩
  f22 := ⟨ "slices.breakPatternsCmpFunc[warehouse/api.Entry]", by decide, Try.func90.trans (congrArg some (by kernel_rfl))⟩
  f23 := ⟨ "slices.choosePivotCmpFunc[warehouse/api.Entry]", by decide, Try.func91.trans (congrArg some (by kernel_rfl))⟩
  f24 := ⟨ "slices.reverseRangeCmpFunc[warehouse/api.Entry]", by decide, Try.func92.trans (congrArg some (by kernel_rfl))⟩
  f25 := ⟨ "slices.partialInsertionSortCmpFunc[warehouse/api.Entry]", by decide, Try.func93.trans (congrArg some (by kernel_rfl))⟩
  f26 := ⟨ "slices.partitionEqualCmpFunc[warehouse/api.Entry]", by decide, Try.func94.trans (congrArg some (by kernel_rfl))⟩
  f27 := ⟨ "slices.partitionCmpFunc[warehouse/api.Entry]", by decide, Try.func95.trans (congrArg some (by kernel_rfl))⟩
  f28 := Try.func96.trans (congrArg some (by kernel_rfl))
  f29 := Try.func97.trans (congrArg some (by kernel_rfl))
  f46 := ⟨ "slices.siftDownCmpFunc[warehouse/api.Entry]", by decide, Try.func100.trans (congrArg some (by kernel_rfl))⟩
  f47 := Try.func101.trans (congrArg some (by kernel_rfl))
  f48 := Try.func102.trans (congrArg some (by kernel_rfl))
  f49 := ⟨ "slices.medianAdjacentCmpFunc[warehouse/api.Entry]", by decide, Try.func103.trans (congrArg some (by kernel_rfl))⟩
  f50 := ⟨ "slices.medianCmpFunc[warehouse/api.Entry]", by decide, Try.func104.trans (congrArg some (by kernel_rfl))⟩
  f57 := ⟨ "slices.order2CmpFunc[warehouse/api.Entry]", by decide, Try.func105.trans (congrArg some (by kernel_rfl))⟩
  t0 := Try.underlying0
  a0 := Try.isAgg0
  z0 := Try.sizeOf0
  v0 := Try.zeroValue0
  t3 := Try.underlying3
  a3 := Try.isAgg3
  z3 := Try.sizeOf3
  v3 := Try.zeroValue3
  t4 := Try.underlying4
  a4 := Try.isAgg4
  z4 := Try.sizeOf4
  v4 := Try.zeroValue4
  t5 := Try.underlying5
  a5 := Try.isAgg5
  z5 := Try.sizeOf5
  v5 := Try.zeroValue5
  t9 := Try.underlying9
  a9 := Try.isAgg9
  z9 := Try.sizeOf9
  v9 := Try.zeroValue9
  t22 := Try.underlying22
  a22 := Try.isAgg22
  z22 := Try.sizeOf22
  v22 := Try.zeroValue22
  t25 := Try.underlying78
  a25 := Try.isAgg78
  z25 := Try.sizeOf78
  v25 := Try.zeroValue78
  t39 := Try.underlying31
  a39 := Try.isAgg31
  z39 := Try.sizeOf31
  v39 := Try.zeroValue31
  t45 := Try.underlying87
  a45 := Try.isAgg87
  z45 := Try.sizeOf87
  v45 := Try.zeroValue87
  t46 := Try.underlying88
  a46 := Try.isAgg88
  z46 := Try.sizeOf88
  v46 := Try.zeroValue88
  t50 := Try.underlying92
  a50 := Try.isAgg92
  z50 := Try.sizeOf92
  v50 := Try.zeroValue92
  t53 := Try.underlying95
  a53 := Try.isAgg95
  z53 := Try.sizeOf95
  v53 := Try.zeroValue95
  t55 := Try.underlying97
  a55 := Try.isAgg97
  z55 := Try.sizeOf97
  v55 := Try.zeroValue97
  t66 := Try.underlying99
  a66 := Try.isAgg99
  z66 := Try.sizeOf99
  v66 := Try.zeroValue99
  t70 := Try.underlying103
  a70 := Try.isAgg103
  z70 := Try.sizeOf103
  v70 := Try.zeroValue103
  t76 := Try.underlying105
  a76 := Try.isAgg105
  z76 := Try.sizeOf105
  v76 := Try.zeroValue105
  t77 := Try.underlying106
  a77 := Try.isAgg106
  z77 := Try.sizeOf106
  v77 := Try.zeroValue106
theorem srt : SortE Try.prog 73 74 := sortE_of lay Try.isAgg33 Try.sizeOf33 i_bag_sum_1

theorem lifted (os : Os) (started : os.Started) (H : Type) (enc : TypeId × Value → H) :
    ReturnsInHanded {} Try.checked os 3 .any (Rows.bagNormalizesSpec.pre6 enc Try.prog Try.f3 Rows.bagNormalizesRow.domain false) (Rows.bagNormalizesSpec.post enc Try.prog Try.f3 false true false false) := by
  refine lifted_of_law (C := Try.checked) (n := 7) (tb := 4) (shs := [(false, [.slice [.slice [.int .i64, .int .i64, .str], .int .i64]]), (false, [.slice [.int .i64]]), (false, [.int .i64])]) own started (by kernel_rfl) Try.func3
    (ChangeSpec.witness6 (enc := enc) (C := Try.checked) false ⟨#[], #[.slice none 0 0, .slice none 0 0, .int .i64 0], []⟩ 8 (by kernel_rfl) (by kernel_rfl) (by kernel_rfl) (by kernel_rfl))
    laidOut (by kernel_rfl) (fun ds hd => ?_) rfl (by kernel_rfl) Try.underlying4 (by kernel_rfl) i_warehouselaw6_BagNormalizes.has ?_
  · have hd : ds.length = 3 := hd.trans (by kernel_rfl)
    obtain ⟨d0, d1, d2, rfl⟩ : ∃ d0 d1 d2, ds = [d0, d1, d2] := by
      match ds, hd with
      | [d0, d1, d2], _ => exact ⟨d0, d1, d2, rfl⟩
    rfl
  · intro xs h
    obtain ⟨y0, xs, rfl, p0, h⟩ := argsOk_cons h
    obtain ⟨y1, xs, rfl, p1, h⟩ := argsOk_cons h
    obtain ⟨y2, xs, rfl, p2, h⟩ := argsOk_cons h
    cases argsOk_nil h
    obtain ⟨x0, rfl, h0a, h0b⟩ := argOk_ents p0
    obtain ⟨x1, rfl, h1a, h1b⟩ := argOk_ints p1
    obtain ⟨x2, rfl, h2a⟩ := argOk_int p2
    first
      | exact law_BagNormalizes i_warehouselaw6_BagNormalizes srt srt x0 x1 x2
      | exact law_BagNormalizes i_warehouselaw6_BagNormalizes srt srt x0 x1 x2 h0a h0b h1a h1b h2a

theorem over : Rows.bagNormalizesRow.holds Try.pinned (OpenSpec.ofChange Rows.bagNormalizesSpec) :=
  OpenClaim.holds_of_wide 3 Try.f3 rfl rfl rfl rfl rfl rfl rfl ⟨rfl, rfl, rfl, rfl, rfl⟩ rfl rfl rfl rfl rfl (by kernel_rfl) Try.func3 (by kernel_rfl)
    (of_decide_eq_true (by kernel_rfl)) (by unfold Func.isWrapper; first | (rw [if_pos (by decide +kernel)]; kernel_rfl) | (rw [if_neg (by decide +kernel)]; exact ⟨rfl, rfl⟩))
    (fun os started H enc _ => lifted os started H enc)

theorem proved : Rows.BagNormalizesSaid := over
#print axioms proved
end Go.Proofs.Ytgipmadklcjcoaa.bagNormalizes
