/-
  An abstract machine over the model, the code of functions on it, and their contracts: what the claim needs.
  No condition: definitions, plain laws, contracts over any program that has this code.
-/
import Derived.Test.YtdfjjgbgjpjmpaaZ2
set_option linter.all false
namespace Go.AW
def c_math_bits_Len32 : AFunc := ⟨19, [.tmp 2], (.seq (.region [ ⟨(some 2), .move (.c (.int .i64 0)), none⟩]) (.seq (.seq (.region [ ⟨(some 3), .move (.t 0), none⟩, ⟨(some 4), .bin .geq (.t 3) (.c (.int .u32 65536)), none⟩]) (.cond (.t 4) (.seq (.region [ ⟨(some 5), .move (.t 0), none⟩, ⟨(some 6), .bin .shr (.t 5) (.c (.int .u64 16)), none⟩, ⟨(some 0), .move (.t 6), none⟩]) (.region [ ⟨(some 2), .move (.c (.int .i64 16)), none⟩])) .skip)) (.seq (.seq (.region [ ⟨(some 7), .move (.t 0), none⟩, ⟨(some 8), .bin .geq (.t 7) (.c (.int .u32 256)), none⟩]) (.cond (.t 8) (.seq (.region [ ⟨(some 9), .move (.t 0), none⟩, ⟨(some 10), .bin .shr (.t 9) (.c (.int .u64 8)), none⟩, ⟨(some 0), .move (.t 10), none⟩]) (.region [ ⟨(some 11), .move (.t 2), none⟩, ⟨(some 12), .bin .add (.t 11) (.c (.int .i64 8)), none⟩, ⟨(some 2), .move (.t 12), none⟩])) .skip)) (.seq (.region [ ⟨(some 13), .move (.t 2), none⟩, ⟨(some 14), .move (.t 0), none⟩, ⟨(some 15), .conv .u8 (.t 14), none⟩, ⟨(some 16), .indexStr (.c (.str (bs [0, 1, 2, 2, 3, 3, 3, 3, 4, 4, 4, 4, 4, 4, 4, 4, 5, 5, 5, 5, 5, 5, 5, 5, 5, 5, 5, 5, 5, 5, 5, 5, 6, 6, 6, 6, 6, 6, 6, 6, 6, 6, 6, 6, 6, 6, 6, 6, 6, 6, 6, 6, 6, 6, 6, 6, 6, 6, 6, 6, 6, 6, 6, 6, 7, 7, 7, 7, 7, 7, 7, 7, 7, 7, 7, 7, 7, 7, 7, 7, 7, 7, 7, 7, 7, 7, 7, 7, 7, 7, 7, 7, 7, 7, 7, 7, 7, 7, 7, 7, 7, 7, 7, 7, 7, 7, 7, 7, 7, 7, 7, 7, 7, 7, 7, 7, 7, 7, 7, 7, 7, 7, 7, 7, 7, 7, 7, 7, 8, 8, 8, 8, 8, 8, 8, 8, 8, 8, 8, 8, 8, 8, 8, 8, 8, 8, 8, 8, 8, 8, 8, 8, 8, 8, 8, 8, 8, 8, 8, 8, 8, 8, 8, 8, 8, 8, 8, 8, 8, 8, 8, 8, 8, 8, 8, 8, 8, 8, 8, 8, 8, 8, 8, 8, 8, 8, 8, 8, 8, 8, 8, 8, 8, 8, 8, 8, 8, 8, 8, 8, 8, 8, 8, 8, 8, 8, 8, 8, 8, 8, 8, 8, 8, 8, 8, 8, 8, 8, 8, 8, 8, 8, 8, 8, 8, 8, 8, 8, 8, 8, 8, 8, 8, 8, 8, 8, 8, 8, 8, 8, 8, 8, 8, 8, 8, 8, 8, 8, 8, 8, 8, 8, 8, 8, 8, 8]))) (.t 15), none⟩, ⟨(some 17), .conv .i64 (.t 16), none⟩, ⟨(some 18), .bin .add (.t 13) (.t 17), none⟩, ⟨(some 2), .move (.t 18), none⟩]) .ret))))⟩

structure F_math_bits_Len32 (P : Program) where
  id : FuncId
  has : Has P id [] c_math_bits_Len32

def c_math_bits_Len64 : AFunc := ⟨25, [.tmp 2], (.seq (.region [ ⟨(some 2), .move (.c (.int .i64 0)), none⟩]) (.seq (.seq (.region [ ⟨(some 3), .move (.t 0), none⟩, ⟨(some 4), .bin .geq (.t 3) (.c (.int .u64 4294967296)), none⟩]) (.cond (.t 4) (.seq (.region [ ⟨(some 5), .move (.t 0), none⟩, ⟨(some 6), .bin .shr (.t 5) (.c (.int .u64 32)), none⟩, ⟨(some 0), .move (.t 6), none⟩]) (.region [ ⟨(some 2), .move (.c (.int .i64 32)), none⟩])) .skip)) (.seq (.seq (.region [ ⟨(some 7), .move (.t 0), none⟩, ⟨(some 8), .bin .geq (.t 7) (.c (.int .u64 65536)), none⟩]) (.cond (.t 8) (.seq (.region [ ⟨(some 9), .move (.t 0), none⟩, ⟨(some 10), .bin .shr (.t 9) (.c (.int .u64 16)), none⟩, ⟨(some 0), .move (.t 10), none⟩]) (.region [ ⟨(some 11), .move (.t 2), none⟩, ⟨(some 12), .bin .add (.t 11) (.c (.int .i64 16)), none⟩, ⟨(some 2), .move (.t 12), none⟩])) .skip)) (.seq (.seq (.region [ ⟨(some 13), .move (.t 0), none⟩, ⟨(some 14), .bin .geq (.t 13) (.c (.int .u64 256)), none⟩]) (.cond (.t 14) (.seq (.region [ ⟨(some 15), .move (.t 0), none⟩, ⟨(some 16), .bin .shr (.t 15) (.c (.int .u64 8)), none⟩, ⟨(some 0), .move (.t 16), none⟩]) (.region [ ⟨(some 17), .move (.t 2), none⟩, ⟨(some 18), .bin .add (.t 17) (.c (.int .i64 8)), none⟩, ⟨(some 2), .move (.t 18), none⟩])) .skip)) (.seq (.region [ ⟨(some 19), .move (.t 2), none⟩, ⟨(some 20), .move (.t 0), none⟩, ⟨(some 21), .conv .u8 (.t 20), none⟩, ⟨(some 22), .indexStr (.c (.str (bs [0, 1, 2, 2, 3, 3, 3, 3, 4, 4, 4, 4, 4, 4, 4, 4, 5, 5, 5, 5, 5, 5, 5, 5, 5, 5, 5, 5, 5, 5, 5, 5, 6, 6, 6, 6, 6, 6, 6, 6, 6, 6, 6, 6, 6, 6, 6, 6, 6, 6, 6, 6, 6, 6, 6, 6, 6, 6, 6, 6, 6, 6, 6, 6, 7, 7, 7, 7, 7, 7, 7, 7, 7, 7, 7, 7, 7, 7, 7, 7, 7, 7, 7, 7, 7, 7, 7, 7, 7, 7, 7, 7, 7, 7, 7, 7, 7, 7, 7, 7, 7, 7, 7, 7, 7, 7, 7, 7, 7, 7, 7, 7, 7, 7, 7, 7, 7, 7, 7, 7, 7, 7, 7, 7, 7, 7, 7, 7, 8, 8, 8, 8, 8, 8, 8, 8, 8, 8, 8, 8, 8, 8, 8, 8, 8, 8, 8, 8, 8, 8, 8, 8, 8, 8, 8, 8, 8, 8, 8, 8, 8, 8, 8, 8, 8, 8, 8, 8, 8, 8, 8, 8, 8, 8, 8, 8, 8, 8, 8, 8, 8, 8, 8, 8, 8, 8, 8, 8, 8, 8, 8, 8, 8, 8, 8, 8, 8, 8, 8, 8, 8, 8, 8, 8, 8, 8, 8, 8, 8, 8, 8, 8, 8, 8, 8, 8, 8, 8, 8, 8, 8, 8, 8, 8, 8, 8, 8, 8, 8, 8, 8, 8, 8, 8, 8, 8, 8, 8, 8, 8, 8, 8, 8, 8, 8, 8, 8, 8, 8, 8, 8, 8, 8, 8, 8, 8]))) (.t 21), none⟩, ⟨(some 23), .conv .i64 (.t 22), none⟩, ⟨(some 24), .bin .add (.t 19) (.t 23), none⟩, ⟨(some 2), .move (.t 24), none⟩]) .ret)))))⟩

structure F_math_bits_Len64 (P : Program) where
  id : FuncId
  has : Has P id [] c_math_bits_Len64

def c_math_bits_Len (f_math_bits_Len32 : FuncId) (f_math_bits_Len64 : FuncId) : AFunc := ⟨8, [.tmp 2], (.seq (.region [ ⟨(some 2), .move (.c (.int .i64 0)), none⟩]) (.seq (.cond (.c (.bool false)) (.seq (.region [ ⟨(some 3), .move (.t 0), none⟩, ⟨(some 4), .conv .u32 (.t 3), none⟩, ⟨(some 5), .call f_math_bits_Len32 [(.t 4)], none⟩, ⟨(some 2), .move (.t 5), none⟩]) .ret) .skip) (.seq (.region [ ⟨(some 6), .move (.t 0), none⟩, ⟨(some 7), .call f_math_bits_Len64 [(.t 6)], none⟩, ⟨(some 2), .move (.t 7), none⟩]) .ret)))⟩

structure F_math_bits_Len (P : Program) where
  id : FuncId
  math_bits_Len32 : F_math_bits_Len32 P
  math_bits_Len64 : F_math_bits_Len64 P
  has : Has P id [] (c_math_bits_Len math_bits_Len32.id math_bits_Len64.id)

def c_slices_insertionSortCmpFunc_Entry : AFunc := ⟨53, [], (.seq (.region [ ⟨(some 10), .move (.t 1), none⟩, ⟨(some 11), .bin .add (.t 10) (.c (.int .i64 1)), none⟩, ⟨(some 8), .move (.t 11), none⟩]) (.block 0 (.loop (.seq (.seq (.region [ ⟨(some 12), .move (.t 8), none⟩, ⟨(some 13), .move (.t 2), none⟩, ⟨(some 14), .bin .lss (.t 12) (.t 13), none⟩]) (.cond (.t 14) .skip (.exit 0))) (.seq (.block 1 (.seq (.region [ ⟨(some 17), .move (.t 8), none⟩, ⟨(some 9), .move (.t 17), none⟩]) (.block 2 (.loop (.seq (.seq (.draw [ (⟨(some 18), .move (.t 9), none⟩, []), (⟨(some 19), .move (.t 1), none⟩, []), (⟨(some 20), .bin .gtr (.t 18) (.t 19), none⟩, []), (⟨(some 21), .move (.t 20), none⟩, []), (⟨(some 22), .move (.t 3), some (some 21, true)⟩, []), (⟨(some 23), .move (.t 0), some (some 21, true)⟩, []), (⟨(some 24), .move (.t 9), some (some 21, true)⟩, []), (⟨(some 25), .indexAddr 2 (.t 23) (.t 24), some (some 21, true)⟩, []), (⟨(some 26), .load true 2 (.t 25), some (some 21, true)⟩, []), (⟨(some 27), .move (.t 0), some (some 21, true)⟩, []), (⟨(some 28), .move (.t 9), some (some 21, true)⟩, []), (⟨(some 29), .bin .sub (.t 28) (.c (.int .i64 1)), some (some 21, true)⟩, []), (⟨(some 30), .indexAddr 2 (.t 27) (.t 29), some (some 21, true)⟩, []), (⟨(some 31), .load true 2 (.t 30), some (some 21, true)⟩, []), (⟨(some 32), .callv (.t 22) [(.t 26), (.t 31)], some (some 21, true)⟩, []), (⟨(some 33), .bin .lss (.t 32) (.c (.int .i64 0)), some (some 21, true)⟩, []), (⟨(some 34), .pick (.t 21) (.t 33) (.c (.bool false)), none⟩, [])]) (.cond (.t 34) .skip (.exit 2))) (.seq (.block 3 (.draw [ (⟨(some 37), .move (.t 0), none⟩, []), (⟨(some 38), .move (.t 9), none⟩, []), (⟨(some 39), .move (.t 0), none⟩, []), (⟨(some 40), .move (.t 9), none⟩, []), (⟨(some 41), .bin .sub (.t 40) (.c (.int .i64 1)), none⟩, []), (⟨(some 42), .move (.t 0), none⟩, []), (⟨(some 43), .move (.t 9), none⟩, []), (⟨(some 44), .bin .sub (.t 43) (.c (.int .i64 1)), none⟩, []), (⟨(some 45), .indexAddr 2 (.t 42) (.t 44), none⟩, []), (⟨(some 46), .load true 2 (.t 45), none⟩, []), (⟨(some 47), .move (.t 0), none⟩, []), (⟨(some 48), .move (.t 9), none⟩, []), (⟨(some 49), .indexAddr 2 (.t 47) (.t 48), none⟩, []), (⟨(some 50), .load true 2 (.t 49), none⟩, []), (⟨(some 51), .indexAddr 2 (.t 37) (.t 38), none⟩, []), (⟨none, .store 2 (.t 51) (.t 46), none⟩, []), (⟨(some 52), .indexAddr 2 (.t 39) (.t 41), none⟩, []), (⟨none, .store 2 (.t 52) (.t 50), none⟩, [])])) (.region [ ⟨(some 35), .move (.t 9), none⟩, ⟨(some 36), .bin .sub (.t 35) (.c (.int .i64 1)), none⟩, ⟨(some 9), .move (.t 36), none⟩]))))))) (.region [ ⟨(some 15), .move (.t 8), none⟩, ⟨(some 16), .bin .add (.t 15) (.c (.int .i64 1)), none⟩, ⟨(some 8), .move (.t 16), none⟩]))))))⟩

structure F_slices_insertionSortCmpFunc_Entry (P : Program) where
  id : FuncId
  has : Has P id [] c_slices_insertionSortCmpFunc_Entry

def c_slices_siftDownCmpFunc_Entry : AFunc := ⟨82, [], (.seq (.region [ ⟨(some 12), .move (.t 1), none⟩, ⟨(some 10), .move (.t 12), none⟩]) (.block 0 (.loop (.block 1 (.seq (.region [ ⟨(some 13), .move (.t 10), none⟩, ⟨(some 14), .bin .mul (.c (.int .i64 2)) (.t 13), none⟩, ⟨(some 15), .bin .add (.t 14) (.c (.int .i64 1)), none⟩, ⟨(some 11), .move (.t 15), none⟩]) (.seq (.seq (.region [ ⟨(some 16), .move (.t 11), none⟩, ⟨(some 17), .move (.t 2), none⟩, ⟨(some 18), .bin .geq (.t 16) (.t 17), none⟩]) (.cond (.t 18) (.exit 0) .skip)) (.seq (.seq (.draw [ (⟨(some 19), .move (.t 11), none⟩, []), (⟨(some 20), .bin .add (.t 19) (.c (.int .i64 1)), none⟩, []), (⟨(some 21), .move (.t 2), none⟩, []), (⟨(some 22), .bin .lss (.t 20) (.t 21), none⟩, []), (⟨(some 23), .move (.t 22), none⟩, []), (⟨(some 24), .move (.t 4), some (some 23, true)⟩, []), (⟨(some 25), .move (.t 0), some (some 23, true)⟩, []), (⟨(some 26), .move (.t 3), some (some 23, true)⟩, []), (⟨(some 27), .move (.t 11), some (some 23, true)⟩, []), (⟨(some 28), .bin .add (.t 26) (.t 27), some (some 23, true)⟩, []), (⟨(some 29), .indexAddr 2 (.t 25) (.t 28), some (some 23, true)⟩, []), (⟨(some 30), .load true 2 (.t 29), some (some 23, true)⟩, []), (⟨(some 31), .move (.t 0), some (some 23, true)⟩, []), (⟨(some 32), .move (.t 3), some (some 23, true)⟩, []), (⟨(some 33), .move (.t 11), some (some 23, true)⟩, []), (⟨(some 34), .bin .add (.t 32) (.t 33), some (some 23, true)⟩, []), (⟨(some 35), .bin .add (.t 34) (.c (.int .i64 1)), some (some 23, true)⟩, []), (⟨(some 36), .indexAddr 2 (.t 31) (.t 35), some (some 23, true)⟩, []), (⟨(some 37), .load true 2 (.t 36), some (some 23, true)⟩, []), (⟨(some 38), .callv (.t 24) [(.t 30), (.t 37)], some (some 23, true)⟩, []), (⟨(some 39), .bin .lss (.t 38) (.c (.int .i64 0)), some (some 23, true)⟩, []), (⟨(some 40), .pick (.t 23) (.t 39) (.c (.bool false)), none⟩, [])]) (.cond (.t 40) (.region [ ⟨(some 41), .move (.t 11), none⟩, ⟨(some 42), .bin .add (.t 41) (.c (.int .i64 1)), none⟩, ⟨(some 11), .move (.t 42), none⟩]) .skip)) (.seq (.seq (.draw [ (⟨(some 43), .move (.t 4), none⟩, []), (⟨(some 44), .move (.t 0), none⟩, []), (⟨(some 45), .move (.t 3), none⟩, []), (⟨(some 46), .move (.t 10), none⟩, []), (⟨(some 47), .bin .add (.t 45) (.t 46), none⟩, []), (⟨(some 48), .indexAddr 2 (.t 44) (.t 47), none⟩, []), (⟨(some 49), .load true 2 (.t 48), none⟩, []), (⟨(some 50), .move (.t 0), none⟩, []), (⟨(some 51), .move (.t 3), none⟩, []), (⟨(some 52), .move (.t 11), none⟩, []), (⟨(some 53), .bin .add (.t 51) (.t 52), none⟩, []), (⟨(some 54), .indexAddr 2 (.t 50) (.t 53), none⟩, []), (⟨(some 55), .load true 2 (.t 54), none⟩, []), (⟨(some 56), .callv (.t 43) [(.t 49), (.t 55)], none⟩, []), (⟨(some 57), .bin .lss (.t 56) (.c (.int .i64 0)), none⟩, []), (⟨(some 58), .un .not (.t 57), none⟩, [])]) (.cond (.t 58) .ret .skip)) (.seq (.draw [ (⟨(some 59), .move (.t 0), none⟩, []), (⟨(some 60), .move (.t 3), none⟩, []), (⟨(some 61), .move (.t 10), none⟩, []), (⟨(some 62), .bin .add (.t 60) (.t 61), none⟩, []), (⟨(some 63), .move (.t 0), none⟩, []), (⟨(some 64), .move (.t 3), none⟩, []), (⟨(some 65), .move (.t 11), none⟩, []), (⟨(some 66), .bin .add (.t 64) (.t 65), none⟩, []), (⟨(some 67), .move (.t 0), none⟩, []), (⟨(some 68), .move (.t 3), none⟩, []), (⟨(some 69), .move (.t 11), none⟩, []), (⟨(some 70), .bin .add (.t 68) (.t 69), none⟩, []), (⟨(some 71), .indexAddr 2 (.t 67) (.t 70), none⟩, []), (⟨(some 72), .load true 2 (.t 71), none⟩, []), (⟨(some 73), .move (.t 0), none⟩, []), (⟨(some 74), .move (.t 3), none⟩, []), (⟨(some 75), .move (.t 10), none⟩, []), (⟨(some 76), .bin .add (.t 74) (.t 75), none⟩, []), (⟨(some 77), .indexAddr 2 (.t 73) (.t 76), none⟩, []), (⟨(some 78), .load true 2 (.t 77), none⟩, []), (⟨(some 79), .indexAddr 2 (.t 59) (.t 62), none⟩, []), (⟨none, .store 2 (.t 79) (.t 72), none⟩, []), (⟨(some 80), .indexAddr 2 (.t 63) (.t 66), none⟩, []), (⟨none, .store 2 (.t 80) (.t 78), none⟩, [])]) (.region [ ⟨(some 81), .move (.t 11), none⟩, ⟨(some 10), .move (.t 81), none⟩]))))))))))⟩

structure F_slices_siftDownCmpFunc_Entry (P : Program) where
  id : FuncId
  has : Has P id [] c_slices_siftDownCmpFunc_Entry

def c_slices_heapSortCmpFunc_Entry (f_slices_siftDownCmpFunc_Entry : FuncId) : AFunc := ⟨60, [], (.seq (.region [ ⟨(some 13), .move (.t 1), none⟩, ⟨(some 8), .move (.t 13), none⟩]) (.seq (.region [ ⟨(some 9), .move (.c (.int .i64 0)), none⟩]) (.seq (.region [ ⟨(some 14), .move (.t 2), none⟩, ⟨(some 15), .move (.t 1), none⟩, ⟨(some 16), .bin .sub (.t 14) (.t 15), none⟩, ⟨(some 10), .move (.t 16), none⟩]) (.seq (.seq (.region [ ⟨(some 17), .move (.t 10), none⟩, ⟨(some 18), .bin .sub (.t 17) (.c (.int .i64 1)), none⟩, ⟨(some 19), .bin .quo (.t 18) (.c (.int .i64 2)), none⟩, ⟨(some 11), .move (.t 19), none⟩]) (.block 0 (.loop (.seq (.seq (.region [ ⟨(some 20), .move (.t 11), none⟩, ⟨(some 21), .bin .geq (.t 20) (.c (.int .i64 0)), none⟩]) (.cond (.t 21) .skip (.exit 0))) (.seq (.block 1 (.region [ ⟨(some 24), .move (.t 0), none⟩, ⟨(some 25), .move (.t 11), none⟩, ⟨(some 26), .move (.t 10), none⟩, ⟨(some 27), .move (.t 8), none⟩, ⟨(some 28), .move (.t 3), none⟩, ⟨(some 29), .call f_slices_siftDownCmpFunc_Entry [(.t 24), (.t 25), (.t 26), (.t 27), (.t 28)], none⟩])) (.region [ ⟨(some 22), .move (.t 11), none⟩, ⟨(some 23), .bin .sub (.t 22) (.c (.int .i64 1)), none⟩, ⟨(some 11), .move (.t 23), none⟩])))))) (.seq (.region [ ⟨(some 30), .move (.t 10), none⟩, ⟨(some 31), .bin .sub (.t 30) (.c (.int .i64 1)), none⟩, ⟨(some 12), .move (.t 31), none⟩]) (.block 2 (.loop (.seq (.seq (.region [ ⟨(some 32), .move (.t 12), none⟩, ⟨(some 33), .bin .geq (.t 32) (.c (.int .i64 0)), none⟩]) (.cond (.t 33) .skip (.exit 2))) (.seq (.block 3 (.seq (.draw [ (⟨(some 36), .move (.t 0), none⟩, []), (⟨(some 37), .move (.t 8), none⟩, []), (⟨(some 38), .move (.t 0), none⟩, []), (⟨(some 39), .move (.t 8), none⟩, []), (⟨(some 40), .move (.t 12), none⟩, []), (⟨(some 41), .bin .add (.t 39) (.t 40), none⟩, []), (⟨(some 42), .move (.t 0), none⟩, []), (⟨(some 43), .move (.t 8), none⟩, []), (⟨(some 44), .move (.t 12), none⟩, []), (⟨(some 45), .bin .add (.t 43) (.t 44), none⟩, []), (⟨(some 46), .indexAddr 2 (.t 42) (.t 45), none⟩, []), (⟨(some 47), .load true 2 (.t 46), none⟩, []), (⟨(some 48), .move (.t 0), none⟩, []), (⟨(some 49), .move (.t 8), none⟩, []), (⟨(some 50), .indexAddr 2 (.t 48) (.t 49), none⟩, []), (⟨(some 51), .load true 2 (.t 50), none⟩, []), (⟨(some 52), .indexAddr 2 (.t 36) (.t 37), none⟩, []), (⟨none, .store 2 (.t 52) (.t 47), none⟩, []), (⟨(some 53), .indexAddr 2 (.t 38) (.t 41), none⟩, []), (⟨none, .store 2 (.t 53) (.t 51), none⟩, [])]) (.region [ ⟨(some 54), .move (.t 0), none⟩, ⟨(some 55), .move (.t 9), none⟩, ⟨(some 56), .move (.t 12), none⟩, ⟨(some 57), .move (.t 8), none⟩, ⟨(some 58), .move (.t 3), none⟩, ⟨(some 59), .call f_slices_siftDownCmpFunc_Entry [(.t 54), (.t 55), (.t 56), (.t 57), (.t 58)], none⟩]))) (.region [ ⟨(some 34), .move (.t 12), none⟩, ⟨(some 35), .bin .sub (.t 34) (.c (.int .i64 1)), none⟩, ⟨(some 12), .move (.t 35), none⟩]))))))))))⟩

structure F_slices_heapSortCmpFunc_Entry (P : Program) where
  id : FuncId
  slices_siftDownCmpFunc_Entry : F_slices_siftDownCmpFunc_Entry P
  has : Has P id [] (c_slices_heapSortCmpFunc_Entry slices_siftDownCmpFunc_Entry.id)

def c_slices_nextPowerOfTwo (f_math_bits_Len : FuncId) : AFunc := ⟨7, [.tmp 2], (.seq (.region [ ⟨(some 2), .move (.c (.int .u64 0)), none⟩]) (.seq (.region [ ⟨(some 3), .move (.t 0), none⟩, ⟨(some 4), .conv .u64 (.t 3), none⟩, ⟨(some 5), .call f_math_bits_Len [(.t 4)], none⟩, ⟨(some 6), .bin .shl (.c (.int .u64 1)) (.t 5), none⟩, ⟨(some 2), .move (.t 6), none⟩]) .ret))⟩

structure F_slices_nextPowerOfTwo (P : Program) where
  id : FuncId
  math_bits_Len : F_math_bits_Len P
  has : Has P id [] (c_slices_nextPowerOfTwo math_bits_Len.id)

def c_slices_xorshift_Next : AFunc := ⟨33, [.tmp 2], (.seq (.region [ ⟨(some 2), .move (.c (.int .u64 0)), none⟩]) (.seq (.draw [ (⟨(some 3), .move (.t 0), none⟩, []), (⟨(some 4), .nop (.t 3), none⟩, []), (⟨(some 5), .load false 1 (.t 4), none⟩, []), (⟨(some 6), .move (.t 0), none⟩, []), (⟨(some 7), .nop (.t 6), none⟩, []), (⟨(some 8), .load false 1 (.t 7), none⟩, []), (⟨(some 9), .bin .shl (.t 8) (.c (.int .u64 13)), none⟩, []), (⟨(some 10), .bin .xor (.t 5) (.t 9), none⟩, []), (⟨(some 11), .nop (.t 3), none⟩, []), (⟨none, .store 1 (.t 11) (.t 10), none⟩, [])]) (.seq (.draw [ (⟨(some 12), .move (.t 0), none⟩, []), (⟨(some 13), .nop (.t 12), none⟩, []), (⟨(some 14), .load false 1 (.t 13), none⟩, []), (⟨(some 15), .move (.t 0), none⟩, []), (⟨(some 16), .nop (.t 15), none⟩, []), (⟨(some 17), .load false 1 (.t 16), none⟩, []), (⟨(some 18), .bin .shr (.t 17) (.c (.int .u64 7)), none⟩, []), (⟨(some 19), .bin .xor (.t 14) (.t 18), none⟩, []), (⟨(some 20), .nop (.t 12), none⟩, []), (⟨none, .store 1 (.t 20) (.t 19), none⟩, [])]) (.seq (.draw [ (⟨(some 21), .move (.t 0), none⟩, []), (⟨(some 22), .nop (.t 21), none⟩, []), (⟨(some 23), .load false 1 (.t 22), none⟩, []), (⟨(some 24), .move (.t 0), none⟩, []), (⟨(some 25), .nop (.t 24), none⟩, []), (⟨(some 26), .load false 1 (.t 25), none⟩, []), (⟨(some 27), .bin .shl (.t 26) (.c (.int .u64 17)), none⟩, []), (⟨(some 28), .bin .xor (.t 23) (.t 27), none⟩, []), (⟨(some 29), .nop (.t 21), none⟩, []), (⟨none, .store 1 (.t 29) (.t 28), none⟩, [])]) (.seq (.region [ ⟨(some 30), .move (.t 0), none⟩, ⟨(some 31), .nop (.t 30), none⟩, ⟨(some 32), .load false 1 (.t 31), none⟩, ⟨(some 2), .move (.t 32), none⟩]) .ret)))))⟩

structure F_slices_xorshift_Next (P : Program) where
  id : FuncId
  has : Has P id [] c_slices_xorshift_Next

def c_slices_breakPatternsCmpFunc_Entry (f_slices_nextPowerOfTwo : FuncId) (f_slices_xorshift_Next : FuncId) : AFunc := ⟨67, [], (.seq (.region [ ⟨(some 13), .move (.t 2), none⟩, ⟨(some 14), .move (.t 1), none⟩, ⟨(some 15), .bin .sub (.t 13) (.t 14), none⟩, ⟨(some 8), .move (.t 15), none⟩]) (.seq (.region [ ⟨(some 16), .move (.t 8), none⟩, ⟨(some 17), .bin .geq (.t 16) (.c (.int .i64 8)), none⟩]) (.cond (.t 17) (.seq (.region [ ⟨(some 18), .move (.t 8), none⟩, ⟨(some 19), .conv .u64 (.t 18), none⟩, ⟨(some 9), .alloc [(.int .u64 0)], none⟩, ⟨none, .store 1 (.t 9) (.t 19), none⟩]) (.seq (.region [ ⟨(some 20), .move (.t 8), none⟩, ⟨(some 21), .call f_slices_nextPowerOfTwo [(.t 20)], none⟩, ⟨(some 10), .move (.t 21), none⟩]) (.seq (.region [ ⟨(some 22), .move (.t 1), none⟩, ⟨(some 23), .move (.t 8), none⟩, ⟨(some 24), .bin .quo (.t 23) (.c (.int .i64 4)), none⟩, ⟨(some 25), .bin .mul (.t 24) (.c (.int .i64 2)), none⟩, ⟨(some 26), .bin .add (.t 22) (.t 25), none⟩, ⟨(some 27), .bin .sub (.t 26) (.c (.int .i64 1)), none⟩, ⟨(some 11), .move (.t 27), none⟩]) (.block 0 (.loop (.seq (.seq (.region [ ⟨(some 28), .move (.t 11), none⟩, ⟨(some 29), .move (.t 1), none⟩, ⟨(some 30), .move (.t 8), none⟩, ⟨(some 31), .bin .quo (.t 30) (.c (.int .i64 4)), none⟩, ⟨(some 32), .bin .mul (.t 31) (.c (.int .i64 2)), none⟩, ⟨(some 33), .bin .add (.t 29) (.t 32), none⟩, ⟨(some 34), .bin .add (.t 33) (.c (.int .i64 1)), none⟩, ⟨(some 35), .bin .leq (.t 28) (.t 34), none⟩]) (.cond (.t 35) .skip (.exit 0))) (.seq (.block 1 (.seq (.region [ ⟨(some 38), .call f_slices_xorshift_Next [(.t 9)], none⟩, ⟨(some 39), .move (.t 10), none⟩, ⟨(some 40), .bin .sub (.t 39) (.c (.int .u64 1)), none⟩, ⟨(some 41), .bin .and (.t 38) (.t 40), none⟩, ⟨(some 42), .conv .i64 (.t 41), none⟩, ⟨(some 12), .move (.t 42), none⟩]) (.seq (.seq (.region [ ⟨(some 43), .move (.t 12), none⟩, ⟨(some 44), .move (.t 8), none⟩, ⟨(some 45), .bin .geq (.t 43) (.t 44), none⟩]) (.cond (.t 45) (.region [ ⟨(some 46), .move (.t 12), none⟩, ⟨(some 47), .move (.t 8), none⟩, ⟨(some 48), .bin .sub (.t 46) (.t 47), none⟩, ⟨(some 12), .move (.t 48), none⟩]) .skip)) (.draw [ (⟨(some 49), .move (.t 0), none⟩, []), (⟨(some 50), .move (.t 11), none⟩, []), (⟨(some 51), .move (.t 0), none⟩, []), (⟨(some 52), .move (.t 1), none⟩, []), (⟨(some 53), .move (.t 12), none⟩, []), (⟨(some 54), .bin .add (.t 52) (.t 53), none⟩, []), (⟨(some 55), .move (.t 0), none⟩, []), (⟨(some 56), .move (.t 1), none⟩, []), (⟨(some 57), .move (.t 12), none⟩, []), (⟨(some 58), .bin .add (.t 56) (.t 57), none⟩, []), (⟨(some 59), .indexAddr 2 (.t 55) (.t 58), none⟩, []), (⟨(some 60), .load true 2 (.t 59), none⟩, []), (⟨(some 61), .move (.t 0), none⟩, []), (⟨(some 62), .move (.t 11), none⟩, []), (⟨(some 63), .indexAddr 2 (.t 61) (.t 62), none⟩, []), (⟨(some 64), .load true 2 (.t 63), none⟩, []), (⟨(some 65), .indexAddr 2 (.t 49) (.t 50), none⟩, []), (⟨none, .store 2 (.t 65) (.t 60), none⟩, []), (⟨(some 66), .indexAddr 2 (.t 51) (.t 54), none⟩, []), (⟨none, .store 2 (.t 66) (.t 64), none⟩, [])])))) (.region [ ⟨(some 36), .move (.t 11), none⟩, ⟨(some 37), .bin .add (.t 36) (.c (.int .i64 1)), none⟩, ⟨(some 11), .move (.t 37), none⟩])))))))) .skip)))⟩

structure F_slices_breakPatternsCmpFunc_Entry (P : Program) where
  id : FuncId
  slices_nextPowerOfTwo : F_slices_nextPowerOfTwo P
  slices_xorshift_Next : F_slices_xorshift_Next P
  has : Has P id [] (c_slices_breakPatternsCmpFunc_Entry slices_nextPowerOfTwo.id slices_xorshift_Next.id)

def c_slices_order2CmpFunc_Entry : AFunc := ⟨32, [.tmp 10, .tmp 11], (.seq (.region [ ⟨(some 10), .move (.c (.int .i64 0)), none⟩, ⟨(some 11), .move (.c (.int .i64 0)), none⟩]) (.seq (.seq (.draw [ (⟨(some 12), .move (.t 4), none⟩, []), (⟨(some 13), .move (.t 0), none⟩, []), (⟨(some 14), .move (.t 2), none⟩, []), (⟨(some 15), .indexAddr 2 (.t 13) (.t 14), none⟩, []), (⟨(some 16), .load true 2 (.t 15), none⟩, []), (⟨(some 17), .move (.t 0), none⟩, []), (⟨(some 18), .move (.t 1), none⟩, []), (⟨(some 19), .indexAddr 2 (.t 17) (.t 18), none⟩, []), (⟨(some 20), .load true 2 (.t 19), none⟩, []), (⟨(some 21), .callv (.t 12) [(.t 16), (.t 20)], none⟩, []), (⟨(some 22), .bin .lss (.t 21) (.c (.int .i64 0)), none⟩, [])]) (.cond (.t 22) (.seq (.region [ ⟨(some 23), .move (.t 3), none⟩, ⟨(some 24), .nop (.t 23), none⟩, ⟨(some 25), .load false 1 (.t 24), none⟩, ⟨(some 26), .bin .add (.t 25) (.c (.int .i64 1)), none⟩, ⟨(some 27), .nop (.t 23), none⟩, ⟨none, .store 1 (.t 27) (.t 26), none⟩]) (.seq (.region [ ⟨(some 28), .move (.t 2), none⟩, ⟨(some 29), .move (.t 1), none⟩, ⟨(some 10), .move (.t 28), none⟩, ⟨(some 11), .move (.t 29), none⟩]) .ret)) .skip)) (.seq (.region [ ⟨(some 30), .move (.t 1), none⟩, ⟨(some 31), .move (.t 2), none⟩, ⟨(some 10), .move (.t 30), none⟩, ⟨(some 11), .move (.t 31), none⟩]) .ret)))⟩

structure F_slices_order2CmpFunc_Entry (P : Program) where
  id : FuncId
  has : Has P id [] c_slices_order2CmpFunc_Entry

def c_slices_medianCmpFunc_Entry (f_slices_order2CmpFunc_Entry : FuncId) : AFunc := ⟨41, [.tmp 12], (.seq (.region [ ⟨(some 12), .move (.c (.int .i64 0)), none⟩]) (.seq (.region [ ⟨(some 14), .move (.t 0), none⟩, ⟨(some 15), .move (.t 1), none⟩, ⟨(some 16), .move (.t 2), none⟩, ⟨(some 17), .move (.t 4), none⟩, ⟨(some 18), .move (.t 5), none⟩, ⟨(some 19), .call f_slices_order2CmpFunc_Entry [(.t 14), (.t 15), (.t 16), (.t 17), (.t 18)], none⟩, ⟨(some 13), .move (.t 19), none⟩, ⟨(some 20), .extract (.t 13) 0, none⟩, ⟨(some 21), .extract (.t 13) 1, none⟩, ⟨(some 1), .move (.t 20), none⟩, ⟨(some 2), .move (.t 21), none⟩]) (.seq (.region [ ⟨(some 23), .move (.t 0), none⟩, ⟨(some 24), .move (.t 2), none⟩, ⟨(some 25), .move (.t 3), none⟩, ⟨(some 26), .move (.t 4), none⟩, ⟨(some 27), .move (.t 5), none⟩, ⟨(some 28), .call f_slices_order2CmpFunc_Entry [(.t 23), (.t 24), (.t 25), (.t 26), (.t 27)], none⟩, ⟨(some 22), .move (.t 28), none⟩, ⟨(some 29), .extract (.t 22) 0, none⟩, ⟨(some 30), .extract (.t 22) 1, none⟩, ⟨(some 2), .move (.t 29), none⟩, ⟨(some 3), .move (.t 30), none⟩]) (.seq (.region [ ⟨(some 32), .move (.t 0), none⟩, ⟨(some 33), .move (.t 1), none⟩, ⟨(some 34), .move (.t 2), none⟩, ⟨(some 35), .move (.t 4), none⟩, ⟨(some 36), .move (.t 5), none⟩, ⟨(some 37), .call f_slices_order2CmpFunc_Entry [(.t 32), (.t 33), (.t 34), (.t 35), (.t 36)], none⟩, ⟨(some 31), .move (.t 37), none⟩, ⟨(some 38), .extract (.t 31) 0, none⟩, ⟨(some 39), .extract (.t 31) 1, none⟩, ⟨(some 1), .move (.t 38), none⟩, ⟨(some 2), .move (.t 39), none⟩]) (.seq (.region [ ⟨(some 40), .move (.t 2), none⟩, ⟨(some 12), .move (.t 40), none⟩]) .ret)))))⟩

structure F_slices_medianCmpFunc_Entry (P : Program) where
  id : FuncId
  slices_order2CmpFunc_Entry : F_slices_order2CmpFunc_Entry P
  has : Has P id [] (c_slices_medianCmpFunc_Entry slices_order2CmpFunc_Entry.id)

def c_slices_medianAdjacentCmpFunc_Entry (f_slices_medianCmpFunc_Entry : FuncId) : AFunc := ⟨18, [.tmp 8], (.seq (.region [ ⟨(some 8), .move (.c (.int .i64 0)), none⟩]) (.seq (.region [ ⟨(some 9), .move (.t 0), none⟩, ⟨(some 10), .move (.t 1), none⟩, ⟨(some 11), .bin .sub (.t 10) (.c (.int .i64 1)), none⟩, ⟨(some 12), .move (.t 1), none⟩, ⟨(some 13), .move (.t 1), none⟩, ⟨(some 14), .bin .add (.t 13) (.c (.int .i64 1)), none⟩, ⟨(some 15), .move (.t 2), none⟩, ⟨(some 16), .move (.t 3), none⟩, ⟨(some 17), .call f_slices_medianCmpFunc_Entry [(.t 9), (.t 11), (.t 12), (.t 14), (.t 15), (.t 16)], none⟩, ⟨(some 8), .move (.t 17), none⟩]) .ret))⟩

structure F_slices_medianAdjacentCmpFunc_Entry (P : Program) where
  id : FuncId
  slices_medianCmpFunc_Entry : F_slices_medianCmpFunc_Entry P
  has : Has P id [] (c_slices_medianAdjacentCmpFunc_Entry slices_medianCmpFunc_Entry.id)

def c_slices_choosePivotCmpFunc_Entry (f_slices_medianAdjacentCmpFunc_Entry : FuncId) (f_slices_medianCmpFunc_Entry : FuncId) : AFunc := ⟨63, [.tmp 8, .tmp 9], (.seq (.region [ ⟨(some 8), .move (.c (.int .i64 0)), none⟩, ⟨(some 9), .move (.c (.int .i64 0)), none⟩]) (.seq (.region [ ⟨(some 15), .move (.t 2), none⟩, ⟨(some 16), .move (.t 1), none⟩, ⟨(some 17), .bin .sub (.t 15) (.t 16), none⟩, ⟨(some 10), .move (.t 17), none⟩]) (.seq (.region [ ⟨(some 11), .alloc [(.int .i64 0)], none⟩]) (.seq (.region [ ⟨(some 18), .move (.t 1), none⟩, ⟨(some 19), .move (.t 10), none⟩, ⟨(some 20), .bin .quo (.t 19) (.c (.int .i64 4)), none⟩, ⟨(some 21), .bin .mul (.t 20) (.c (.int .i64 1)), none⟩, ⟨(some 22), .bin .add (.t 18) (.t 21), none⟩, ⟨(some 12), .move (.t 22), none⟩]) (.seq (.region [ ⟨(some 23), .move (.t 1), none⟩, ⟨(some 24), .move (.t 10), none⟩, ⟨(some 25), .bin .quo (.t 24) (.c (.int .i64 4)), none⟩, ⟨(some 26), .bin .mul (.t 25) (.c (.int .i64 2)), none⟩, ⟨(some 27), .bin .add (.t 23) (.t 26), none⟩, ⟨(some 13), .move (.t 27), none⟩]) (.seq (.region [ ⟨(some 28), .move (.t 1), none⟩, ⟨(some 29), .move (.t 10), none⟩, ⟨(some 30), .bin .quo (.t 29) (.c (.int .i64 4)), none⟩, ⟨(some 31), .bin .mul (.t 30) (.c (.int .i64 3)), none⟩, ⟨(some 32), .bin .add (.t 28) (.t 31), none⟩, ⟨(some 14), .move (.t 32), none⟩]) (.seq (.seq (.region [ ⟨(some 33), .move (.t 10), none⟩, ⟨(some 34), .bin .geq (.t 33) (.c (.int .i64 8)), none⟩]) (.cond (.t 34) (.seq (.seq (.region [ ⟨(some 35), .move (.t 10), none⟩, ⟨(some 36), .bin .geq (.t 35) (.c (.int .i64 50)), none⟩]) (.cond (.t 36) (.seq (.region [ ⟨(some 37), .move (.t 0), none⟩, ⟨(some 38), .move (.t 12), none⟩, ⟨(some 39), .move (.t 3), none⟩, ⟨(some 40), .call f_slices_medianAdjacentCmpFunc_Entry [(.t 37), (.t 38), (.t 11), (.t 39)], none⟩, ⟨(some 12), .move (.t 40), none⟩]) (.seq (.region [ ⟨(some 41), .move (.t 0), none⟩, ⟨(some 42), .move (.t 13), none⟩, ⟨(some 43), .move (.t 3), none⟩, ⟨(some 44), .call f_slices_medianAdjacentCmpFunc_Entry [(.t 41), (.t 42), (.t 11), (.t 43)], none⟩, ⟨(some 13), .move (.t 44), none⟩]) (.region [ ⟨(some 45), .move (.t 0), none⟩, ⟨(some 46), .move (.t 14), none⟩, ⟨(some 47), .move (.t 3), none⟩, ⟨(some 48), .call f_slices_medianAdjacentCmpFunc_Entry [(.t 45), (.t 46), (.t 11), (.t 47)], none⟩, ⟨(some 14), .move (.t 48), none⟩]))) .skip)) (.region [ ⟨(some 49), .move (.t 0), none⟩, ⟨(some 50), .move (.t 12), none⟩, ⟨(some 51), .move (.t 13), none⟩, ⟨(some 52), .move (.t 14), none⟩, ⟨(some 53), .move (.t 3), none⟩, ⟨(some 54), .call f_slices_medianCmpFunc_Entry [(.t 49), (.t 50), (.t 51), (.t 52), (.t 11), (.t 53)], none⟩, ⟨(some 13), .move (.t 54), none⟩])) .skip)) (.seq (.region [ ⟨(some 55), .load false 1 (.t 11), none⟩]) (.block 0 (.seq (.region [ ⟨(some 58), .bin .eql (.t 55) (.c (.int .i64 0)), none⟩, ⟨(some 57), .move (.t 58), none⟩]) (.cond (.t 57) (.seq (.region [ ⟨(some 59), .move (.t 13), none⟩, ⟨(some 8), .move (.t 59), none⟩, ⟨(some 9), .move (.c (.int .i64 1)), none⟩]) .ret) (.seq (.region [ ⟨(some 61), .bin .eql (.t 55) (.c (.int .i64 12)), none⟩, ⟨(some 60), .move (.t 61), none⟩]) (.cond (.t 60) (.seq (.region [ ⟨(some 62), .move (.t 13), none⟩, ⟨(some 8), .move (.t 62), none⟩, ⟨(some 9), .move (.c (.int .i64 2)), none⟩]) .ret) (.seq (.region [ ⟨(some 56), .move (.t 13), none⟩, ⟨(some 8), .move (.t 56), none⟩, ⟨(some 9), .move (.c (.int .i64 0)), none⟩]) .ret))))))))))))))⟩

structure F_slices_choosePivotCmpFunc_Entry (P : Program) where
  id : FuncId
  slices_medianAdjacentCmpFunc_Entry : F_slices_medianAdjacentCmpFunc_Entry P
  slices_medianCmpFunc_Entry : F_slices_medianCmpFunc_Entry P
  has : Has P id [] (c_slices_choosePivotCmpFunc_Entry slices_medianAdjacentCmpFunc_Entry.id slices_medianCmpFunc_Entry.id)

def c_slices_reverseRangeCmpFunc_Entry : AFunc := ⟨34, [], (.seq (.region [ ⟨(some 10), .move (.t 1), none⟩, ⟨(some 8), .move (.t 10), none⟩]) (.seq (.region [ ⟨(some 11), .move (.t 2), none⟩, ⟨(some 12), .bin .sub (.t 11) (.c (.int .i64 1)), none⟩, ⟨(some 9), .move (.t 12), none⟩]) (.block 0 (.loop (.seq (.seq (.region [ ⟨(some 13), .move (.t 8), none⟩, ⟨(some 14), .move (.t 9), none⟩, ⟨(some 15), .bin .lss (.t 13) (.t 14), none⟩]) (.cond (.t 15) .skip (.exit 0))) (.block 1 (.seq (.draw [ (⟨(some 16), .move (.t 0), none⟩, []), (⟨(some 17), .move (.t 8), none⟩, []), (⟨(some 18), .move (.t 0), none⟩, []), (⟨(some 19), .move (.t 9), none⟩, []), (⟨(some 20), .move (.t 0), none⟩, []), (⟨(some 21), .move (.t 9), none⟩, []), (⟨(some 22), .indexAddr 2 (.t 20) (.t 21), none⟩, []), (⟨(some 23), .load true 2 (.t 22), none⟩, []), (⟨(some 24), .move (.t 0), none⟩, []), (⟨(some 25), .move (.t 8), none⟩, []), (⟨(some 26), .indexAddr 2 (.t 24) (.t 25), none⟩, []), (⟨(some 27), .load true 2 (.t 26), none⟩, []), (⟨(some 28), .indexAddr 2 (.t 16) (.t 17), none⟩, []), (⟨none, .store 2 (.t 28) (.t 23), none⟩, []), (⟨(some 29), .indexAddr 2 (.t 18) (.t 19), none⟩, []), (⟨none, .store 2 (.t 29) (.t 27), none⟩, [])]) (.seq (.region [ ⟨(some 30), .move (.t 8), none⟩, ⟨(some 31), .bin .add (.t 30) (.c (.int .i64 1)), none⟩, ⟨(some 8), .move (.t 31), none⟩]) (.region [ ⟨(some 32), .move (.t 9), none⟩, ⟨(some 33), .bin .sub (.t 32) (.c (.int .i64 1)), none⟩, ⟨(some 9), .move (.t 33), none⟩])))))))))⟩

structure F_slices_reverseRangeCmpFunc_Entry (P : Program) where
  id : FuncId
  has : Has P id [] c_slices_reverseRangeCmpFunc_Entry

def c_slices_partialInsertionSortCmpFunc_Entry : AFunc := ⟨141, [.tmp 8], (.seq (.region [ ⟨(some 8), .move (.c (.bool false)), none⟩]) (.seq (.region [ ⟨(some 13), .move (.t 1), none⟩, ⟨(some 14), .bin .add (.t 13) (.c (.int .i64 1)), none⟩, ⟨(some 9), .move (.t 14), none⟩]) (.seq (.seq (.region [ ⟨(some 10), .move (.c (.int .i64 0)), none⟩]) (.block 0 (.loop (.seq (.seq (.region [ ⟨(some 15), .move (.t 10), none⟩, ⟨(some 16), .bin .lss (.t 15) (.c (.int .i64 5)), none⟩]) (.cond (.t 16) .skip (.exit 0))) (.seq (.block 1 (.seq (.block 2 (.loop (.seq (.seq (.draw [ (⟨(some 19), .move (.t 9), none⟩, []), (⟨(some 20), .move (.t 2), none⟩, []), (⟨(some 21), .bin .lss (.t 19) (.t 20), none⟩, []), (⟨(some 22), .move (.t 21), none⟩, []), (⟨(some 23), .move (.t 3), some (some 22, true)⟩, []), (⟨(some 24), .move (.t 0), some (some 22, true)⟩, []), (⟨(some 25), .move (.t 9), some (some 22, true)⟩, []), (⟨(some 26), .indexAddr 2 (.t 24) (.t 25), some (some 22, true)⟩, []), (⟨(some 27), .load true 2 (.t 26), some (some 22, true)⟩, []), (⟨(some 28), .move (.t 0), some (some 22, true)⟩, []), (⟨(some 29), .move (.t 9), some (some 22, true)⟩, []), (⟨(some 30), .bin .sub (.t 29) (.c (.int .i64 1)), some (some 22, true)⟩, []), (⟨(some 31), .indexAddr 2 (.t 28) (.t 30), some (some 22, true)⟩, []), (⟨(some 32), .load true 2 (.t 31), some (some 22, true)⟩, []), (⟨(some 33), .callv (.t 23) [(.t 27), (.t 32)], some (some 22, true)⟩, []), (⟨(some 34), .bin .lss (.t 33) (.c (.int .i64 0)), some (some 22, true)⟩, []), (⟨(some 35), .un .not (.t 34), some (some 22, true)⟩, []), (⟨(some 36), .pick (.t 22) (.t 35) (.c (.bool false)), none⟩, [])]) (.cond (.t 36) .skip (.exit 2))) (.block 3 (.region [ ⟨(some 37), .move (.t 9), none⟩, ⟨(some 38), .bin .add (.t 37) (.c (.int .i64 1)), none⟩, ⟨(some 9), .move (.t 38), none⟩]))))) (.seq (.seq (.region [ ⟨(some 39), .move (.t 9), none⟩, ⟨(some 40), .move (.t 2), none⟩, ⟨(some 41), .bin .eql (.t 39) (.t 40), none⟩]) (.cond (.t 41) (.seq (.region [ ⟨(some 8), .move (.c (.bool true)), none⟩]) .ret) .skip)) (.seq (.seq (.region [ ⟨(some 42), .move (.t 2), none⟩, ⟨(some 43), .move (.t 1), none⟩, ⟨(some 44), .bin .sub (.t 42) (.t 43), none⟩, ⟨(some 45), .bin .lss (.t 44) (.c (.int .i64 50)), none⟩]) (.cond (.t 45) (.seq (.region [ ⟨(some 8), .move (.c (.bool false)), none⟩]) .ret) .skip)) (.seq (.draw [ (⟨(some 46), .move (.t 0), none⟩, []), (⟨(some 47), .move (.t 9), none⟩, []), (⟨(some 48), .move (.t 0), none⟩, []), (⟨(some 49), .move (.t 9), none⟩, []), (⟨(some 50), .bin .sub (.t 49) (.c (.int .i64 1)), none⟩, []), (⟨(some 51), .move (.t 0), none⟩, []), (⟨(some 52), .move (.t 9), none⟩, []), (⟨(some 53), .bin .sub (.t 52) (.c (.int .i64 1)), none⟩, []), (⟨(some 54), .indexAddr 2 (.t 51) (.t 53), none⟩, []), (⟨(some 55), .load true 2 (.t 54), none⟩, []), (⟨(some 56), .move (.t 0), none⟩, []), (⟨(some 57), .move (.t 9), none⟩, []), (⟨(some 58), .indexAddr 2 (.t 56) (.t 57), none⟩, []), (⟨(some 59), .load true 2 (.t 58), none⟩, []), (⟨(some 60), .indexAddr 2 (.t 46) (.t 47), none⟩, []), (⟨none, .store 2 (.t 60) (.t 55), none⟩, []), (⟨(some 61), .indexAddr 2 (.t 48) (.t 50), none⟩, []), (⟨none, .store 2 (.t 61) (.t 59), none⟩, [])]) (.seq (.seq (.region [ ⟨(some 62), .move (.t 9), none⟩, ⟨(some 63), .move (.t 1), none⟩, ⟨(some 64), .bin .sub (.t 62) (.t 63), none⟩, ⟨(some 65), .bin .geq (.t 64) (.c (.int .i64 2)), none⟩]) (.cond (.t 65) (.seq (.region [ ⟨(some 66), .move (.t 9), none⟩, ⟨(some 67), .bin .sub (.t 66) (.c (.int .i64 1)), none⟩, ⟨(some 11), .move (.t 67), none⟩]) (.block 4 (.loop (.seq (.seq (.region [ ⟨(some 68), .move (.t 11), none⟩, ⟨(some 69), .bin .geq (.t 68) (.c (.int .i64 1)), none⟩]) (.cond (.t 69) .skip (.exit 4))) (.seq (.block 5 (.seq (.seq (.draw [ (⟨(some 72), .move (.t 3), none⟩, []), (⟨(some 73), .move (.t 0), none⟩, []), (⟨(some 74), .move (.t 11), none⟩, []), (⟨(some 75), .indexAddr 2 (.t 73) (.t 74), none⟩, []), (⟨(some 76), .load true 2 (.t 75), none⟩, []), (⟨(some 77), .move (.t 0), none⟩, []), (⟨(some 78), .move (.t 11), none⟩, []), (⟨(some 79), .bin .sub (.t 78) (.c (.int .i64 1)), none⟩, []), (⟨(some 80), .indexAddr 2 (.t 77) (.t 79), none⟩, []), (⟨(some 81), .load true 2 (.t 80), none⟩, []), (⟨(some 82), .callv (.t 72) [(.t 76), (.t 81)], none⟩, []), (⟨(some 83), .bin .lss (.t 82) (.c (.int .i64 0)), none⟩, []), (⟨(some 84), .un .not (.t 83), none⟩, [])]) (.cond (.t 84) (.exit 4) .skip)) (.draw [ (⟨(some 85), .move (.t 0), none⟩, []), (⟨(some 86), .move (.t 11), none⟩, []), (⟨(some 87), .move (.t 0), none⟩, []), (⟨(some 88), .move (.t 11), none⟩, []), (⟨(some 89), .bin .sub (.t 88) (.c (.int .i64 1)), none⟩, []), (⟨(some 90), .move (.t 0), none⟩, []), (⟨(some 91), .move (.t 11), none⟩, []), (⟨(some 92), .bin .sub (.t 91) (.c (.int .i64 1)), none⟩, []), (⟨(some 93), .indexAddr 2 (.t 90) (.t 92), none⟩, []), (⟨(some 94), .load true 2 (.t 93), none⟩, []), (⟨(some 95), .move (.t 0), none⟩, []), (⟨(some 96), .move (.t 11), none⟩, []), (⟨(some 97), .indexAddr 2 (.t 95) (.t 96), none⟩, []), (⟨(some 98), .load true 2 (.t 97), none⟩, []), (⟨(some 99), .indexAddr 2 (.t 85) (.t 86), none⟩, []), (⟨none, .store 2 (.t 99) (.t 94), none⟩, []), (⟨(some 100), .indexAddr 2 (.t 87) (.t 89), none⟩, []), (⟨none, .store 2 (.t 100) (.t 98), none⟩, [])]))) (.region [ ⟨(some 70), .move (.t 11), none⟩, ⟨(some 71), .bin .sub (.t 70) (.c (.int .i64 1)), none⟩, ⟨(some 11), .move (.t 71), none⟩])))))) .skip)) (.seq (.region [ ⟨(some 101), .move (.t 2), none⟩, ⟨(some 102), .move (.t 9), none⟩, ⟨(some 103), .bin .sub (.t 101) (.t 102), none⟩, ⟨(some 104), .bin .geq (.t 103) (.c (.int .i64 2)), none⟩]) (.cond (.t 104) (.seq (.region [ ⟨(some 105), .move (.t 9), none⟩, ⟨(some 106), .bin .add (.t 105) (.c (.int .i64 1)), none⟩, ⟨(some 12), .move (.t 106), none⟩]) (.block 6 (.loop (.seq (.seq (.region [ ⟨(some 107), .move (.t 12), none⟩, ⟨(some 108), .move (.t 2), none⟩, ⟨(some 109), .bin .lss (.t 107) (.t 108), none⟩]) (.cond (.t 109) .skip (.exit 6))) (.seq (.block 7 (.seq (.seq (.draw [ (⟨(some 112), .move (.t 3), none⟩, []), (⟨(some 113), .move (.t 0), none⟩, []), (⟨(some 114), .move (.t 12), none⟩, []), (⟨(some 115), .indexAddr 2 (.t 113) (.t 114), none⟩, []), (⟨(some 116), .load true 2 (.t 115), none⟩, []), (⟨(some 117), .move (.t 0), none⟩, []), (⟨(some 118), .move (.t 12), none⟩, []), (⟨(some 119), .bin .sub (.t 118) (.c (.int .i64 1)), none⟩, []), (⟨(some 120), .indexAddr 2 (.t 117) (.t 119), none⟩, []), (⟨(some 121), .load true 2 (.t 120), none⟩, []), (⟨(some 122), .callv (.t 112) [(.t 116), (.t 121)], none⟩, []), (⟨(some 123), .bin .lss (.t 122) (.c (.int .i64 0)), none⟩, []), (⟨(some 124), .un .not (.t 123), none⟩, [])]) (.cond (.t 124) (.exit 6) .skip)) (.draw [ (⟨(some 125), .move (.t 0), none⟩, []), (⟨(some 126), .move (.t 12), none⟩, []), (⟨(some 127), .move (.t 0), none⟩, []), (⟨(some 128), .move (.t 12), none⟩, []), (⟨(some 129), .bin .sub (.t 128) (.c (.int .i64 1)), none⟩, []), (⟨(some 130), .move (.t 0), none⟩, []), (⟨(some 131), .move (.t 12), none⟩, []), (⟨(some 132), .bin .sub (.t 131) (.c (.int .i64 1)), none⟩, []), (⟨(some 133), .indexAddr 2 (.t 130) (.t 132), none⟩, []), (⟨(some 134), .load true 2 (.t 133), none⟩, []), (⟨(some 135), .move (.t 0), none⟩, []), (⟨(some 136), .move (.t 12), none⟩, []), (⟨(some 137), .indexAddr 2 (.t 135) (.t 136), none⟩, []), (⟨(some 138), .load true 2 (.t 137), none⟩, []), (⟨(some 139), .indexAddr 2 (.t 125) (.t 126), none⟩, []), (⟨none, .store 2 (.t 139) (.t 134), none⟩, []), (⟨(some 140), .indexAddr 2 (.t 127) (.t 129), none⟩, []), (⟨none, .store 2 (.t 140) (.t 138), none⟩, [])]))) (.region [ ⟨(some 110), .move (.t 12), none⟩, ⟨(some 111), .bin .add (.t 110) (.c (.int .i64 1)), none⟩, ⟨(some 12), .move (.t 111), none⟩])))))) .skip)))))))) (.region [ ⟨(some 17), .move (.t 10), none⟩, ⟨(some 18), .bin .add (.t 17) (.c (.int .i64 1)), none⟩, ⟨(some 10), .move (.t 18), none⟩])))))) (.seq (.region [ ⟨(some 8), .move (.c (.bool false)), none⟩]) .ret))))⟩

structure F_slices_partialInsertionSortCmpFunc_Entry (P : Program) where
  id : FuncId
  has : Has P id [] c_slices_partialInsertionSortCmpFunc_Entry

def c_slices_partitionEqualCmpFunc_Entry : AFunc := ⟨90, [.tmp 10], (.seq (.region [ ⟨(some 10), .move (.c (.int .i64 0)), none⟩]) (.seq (.draw [ (⟨(some 13), .move (.t 0), none⟩, []), (⟨(some 14), .move (.t 1), none⟩, []), (⟨(some 15), .move (.t 0), none⟩, []), (⟨(some 16), .move (.t 3), none⟩, []), (⟨(some 17), .move (.t 0), none⟩, []), (⟨(some 18), .move (.t 3), none⟩, []), (⟨(some 19), .indexAddr 2 (.t 17) (.t 18), none⟩, []), (⟨(some 20), .load true 2 (.t 19), none⟩, []), (⟨(some 21), .move (.t 0), none⟩, []), (⟨(some 22), .move (.t 1), none⟩, []), (⟨(some 23), .indexAddr 2 (.t 21) (.t 22), none⟩, []), (⟨(some 24), .load true 2 (.t 23), none⟩, []), (⟨(some 25), .indexAddr 2 (.t 13) (.t 14), none⟩, []), (⟨none, .store 2 (.t 25) (.t 20), none⟩, []), (⟨(some 26), .indexAddr 2 (.t 15) (.t 16), none⟩, []), (⟨none, .store 2 (.t 26) (.t 24), none⟩, [])]) (.seq (.region [ ⟨(some 27), .move (.t 1), none⟩, ⟨(some 28), .bin .add (.t 27) (.c (.int .i64 1)), none⟩, ⟨(some 29), .move (.t 2), none⟩, ⟨(some 30), .bin .sub (.t 29) (.c (.int .i64 1)), none⟩, ⟨(some 11), .move (.t 28), none⟩, ⟨(some 12), .move (.t 30), none⟩]) (.seq (.block 0 (.loop (.block 1 (.seq (.block 2 (.loop (.seq (.seq (.draw [ (⟨(some 31), .move (.t 11), none⟩, []), (⟨(some 32), .move (.t 12), none⟩, []), (⟨(some 33), .bin .leq (.t 31) (.t 32), none⟩, []), (⟨(some 34), .move (.t 33), none⟩, []), (⟨(some 35), .move (.t 4), some (some 34, true)⟩, []), (⟨(some 36), .move (.t 0), some (some 34, true)⟩, []), (⟨(some 37), .move (.t 1), some (some 34, true)⟩, []), (⟨(some 38), .indexAddr 2 (.t 36) (.t 37), some (some 34, true)⟩, []), (⟨(some 39), .load true 2 (.t 38), some (some 34, true)⟩, []), (⟨(some 40), .move (.t 0), some (some 34, true)⟩, []), (⟨(some 41), .move (.t 11), some (some 34, true)⟩, []), (⟨(some 42), .indexAddr 2 (.t 40) (.t 41), some (some 34, true)⟩, []), (⟨(some 43), .load true 2 (.t 42), some (some 34, true)⟩, []), (⟨(some 44), .callv (.t 35) [(.t 39), (.t 43)], some (some 34, true)⟩, []), (⟨(some 45), .bin .lss (.t 44) (.c (.int .i64 0)), some (some 34, true)⟩, []), (⟨(some 46), .un .not (.t 45), some (some 34, true)⟩, []), (⟨(some 47), .pick (.t 34) (.t 46) (.c (.bool false)), none⟩, [])]) (.cond (.t 47) .skip (.exit 2))) (.block 3 (.region [ ⟨(some 48), .move (.t 11), none⟩, ⟨(some 49), .bin .add (.t 48) (.c (.int .i64 1)), none⟩, ⟨(some 11), .move (.t 49), none⟩]))))) (.seq (.block 4 (.loop (.seq (.seq (.draw [ (⟨(some 50), .move (.t 11), none⟩, []), (⟨(some 51), .move (.t 12), none⟩, []), (⟨(some 52), .bin .leq (.t 50) (.t 51), none⟩, []), (⟨(some 53), .move (.t 52), none⟩, []), (⟨(some 54), .move (.t 4), some (some 53, true)⟩, []), (⟨(some 55), .move (.t 0), some (some 53, true)⟩, []), (⟨(some 56), .move (.t 1), some (some 53, true)⟩, []), (⟨(some 57), .indexAddr 2 (.t 55) (.t 56), some (some 53, true)⟩, []), (⟨(some 58), .load true 2 (.t 57), some (some 53, true)⟩, []), (⟨(some 59), .move (.t 0), some (some 53, true)⟩, []), (⟨(some 60), .move (.t 12), some (some 53, true)⟩, []), (⟨(some 61), .indexAddr 2 (.t 59) (.t 60), some (some 53, true)⟩, []), (⟨(some 62), .load true 2 (.t 61), some (some 53, true)⟩, []), (⟨(some 63), .callv (.t 54) [(.t 58), (.t 62)], some (some 53, true)⟩, []), (⟨(some 64), .bin .lss (.t 63) (.c (.int .i64 0)), some (some 53, true)⟩, []), (⟨(some 65), .pick (.t 53) (.t 64) (.c (.bool false)), none⟩, [])]) (.cond (.t 65) .skip (.exit 4))) (.block 5 (.region [ ⟨(some 66), .move (.t 12), none⟩, ⟨(some 67), .bin .sub (.t 66) (.c (.int .i64 1)), none⟩, ⟨(some 12), .move (.t 67), none⟩]))))) (.seq (.seq (.region [ ⟨(some 68), .move (.t 11), none⟩, ⟨(some 69), .move (.t 12), none⟩, ⟨(some 70), .bin .gtr (.t 68) (.t 69), none⟩]) (.cond (.t 70) (.exit 0) .skip)) (.seq (.draw [ (⟨(some 71), .move (.t 0), none⟩, []), (⟨(some 72), .move (.t 11), none⟩, []), (⟨(some 73), .move (.t 0), none⟩, []), (⟨(some 74), .move (.t 12), none⟩, []), (⟨(some 75), .move (.t 0), none⟩, []), (⟨(some 76), .move (.t 12), none⟩, []), (⟨(some 77), .indexAddr 2 (.t 75) (.t 76), none⟩, []), (⟨(some 78), .load true 2 (.t 77), none⟩, []), (⟨(some 79), .move (.t 0), none⟩, []), (⟨(some 80), .move (.t 11), none⟩, []), (⟨(some 81), .indexAddr 2 (.t 79) (.t 80), none⟩, []), (⟨(some 82), .load true 2 (.t 81), none⟩, []), (⟨(some 83), .indexAddr 2 (.t 71) (.t 72), none⟩, []), (⟨none, .store 2 (.t 83) (.t 78), none⟩, []), (⟨(some 84), .indexAddr 2 (.t 73) (.t 74), none⟩, []), (⟨none, .store 2 (.t 84) (.t 82), none⟩, [])]) (.seq (.region [ ⟨(some 85), .move (.t 11), none⟩, ⟨(some 86), .bin .add (.t 85) (.c (.int .i64 1)), none⟩, ⟨(some 11), .move (.t 86), none⟩]) (.region [ ⟨(some 87), .move (.t 12), none⟩, ⟨(some 88), .bin .sub (.t 87) (.c (.int .i64 1)), none⟩, ⟨(some 12), .move (.t 88), none⟩]))))))))) (.seq (.region [ ⟨(some 89), .move (.t 11), none⟩, ⟨(some 10), .move (.t 89), none⟩]) .ret)))))⟩

structure F_slices_partitionEqualCmpFunc_Entry (P : Program) where
  id : FuncId
  has : Has P id [] c_slices_partitionEqualCmpFunc_Entry

def c_slices_partitionCmpFunc_Entry : AFunc := ⟨178, [.tmp 10, .tmp 11], (.seq (.region [ ⟨(some 10), .move (.c (.int .i64 0)), none⟩, ⟨(some 11), .move (.c (.bool false)), none⟩]) (.seq (.draw [ (⟨(some 14), .move (.t 0), none⟩, []), (⟨(some 15), .move (.t 1), none⟩, []), (⟨(some 16), .move (.t 0), none⟩, []), (⟨(some 17), .move (.t 3), none⟩, []), (⟨(some 18), .move (.t 0), none⟩, []), (⟨(some 19), .move (.t 3), none⟩, []), (⟨(some 20), .indexAddr 2 (.t 18) (.t 19), none⟩, []), (⟨(some 21), .load true 2 (.t 20), none⟩, []), (⟨(some 22), .move (.t 0), none⟩, []), (⟨(some 23), .move (.t 1), none⟩, []), (⟨(some 24), .indexAddr 2 (.t 22) (.t 23), none⟩, []), (⟨(some 25), .load true 2 (.t 24), none⟩, []), (⟨(some 26), .indexAddr 2 (.t 14) (.t 15), none⟩, []), (⟨none, .store 2 (.t 26) (.t 21), none⟩, []), (⟨(some 27), .indexAddr 2 (.t 16) (.t 17), none⟩, []), (⟨none, .store 2 (.t 27) (.t 25), none⟩, [])]) (.seq (.region [ ⟨(some 28), .move (.t 1), none⟩, ⟨(some 29), .bin .add (.t 28) (.c (.int .i64 1)), none⟩, ⟨(some 30), .move (.t 2), none⟩, ⟨(some 31), .bin .sub (.t 30) (.c (.int .i64 1)), none⟩, ⟨(some 12), .move (.t 29), none⟩, ⟨(some 13), .move (.t 31), none⟩]) (.seq (.block 0 (.loop (.seq (.seq (.draw [ (⟨(some 32), .move (.t 12), none⟩, []), (⟨(some 33), .move (.t 13), none⟩, []), (⟨(some 34), .bin .leq (.t 32) (.t 33), none⟩, []), (⟨(some 35), .move (.t 34), none⟩, []), (⟨(some 36), .move (.t 4), some (some 35, true)⟩, []), (⟨(some 37), .move (.t 0), some (some 35, true)⟩, []), (⟨(some 38), .move (.t 12), some (some 35, true)⟩, []), (⟨(some 39), .indexAddr 2 (.t 37) (.t 38), some (some 35, true)⟩, []), (⟨(some 40), .load true 2 (.t 39), some (some 35, true)⟩, []), (⟨(some 41), .move (.t 0), some (some 35, true)⟩, []), (⟨(some 42), .move (.t 1), some (some 35, true)⟩, []), (⟨(some 43), .indexAddr 2 (.t 41) (.t 42), some (some 35, true)⟩, []), (⟨(some 44), .load true 2 (.t 43), some (some 35, true)⟩, []), (⟨(some 45), .callv (.t 36) [(.t 40), (.t 44)], some (some 35, true)⟩, []), (⟨(some 46), .bin .lss (.t 45) (.c (.int .i64 0)), some (some 35, true)⟩, []), (⟨(some 47), .pick (.t 35) (.t 46) (.c (.bool false)), none⟩, [])]) (.cond (.t 47) .skip (.exit 0))) (.block 1 (.region [ ⟨(some 48), .move (.t 12), none⟩, ⟨(some 49), .bin .add (.t 48) (.c (.int .i64 1)), none⟩, ⟨(some 12), .move (.t 49), none⟩]))))) (.seq (.block 2 (.loop (.seq (.seq (.draw [ (⟨(some 50), .move (.t 12), none⟩, []), (⟨(some 51), .move (.t 13), none⟩, []), (⟨(some 52), .bin .leq (.t 50) (.t 51), none⟩, []), (⟨(some 53), .move (.t 52), none⟩, []), (⟨(some 54), .move (.t 4), some (some 53, true)⟩, []), (⟨(some 55), .move (.t 0), some (some 53, true)⟩, []), (⟨(some 56), .move (.t 13), some (some 53, true)⟩, []), (⟨(some 57), .indexAddr 2 (.t 55) (.t 56), some (some 53, true)⟩, []), (⟨(some 58), .load true 2 (.t 57), some (some 53, true)⟩, []), (⟨(some 59), .move (.t 0), some (some 53, true)⟩, []), (⟨(some 60), .move (.t 1), some (some 53, true)⟩, []), (⟨(some 61), .indexAddr 2 (.t 59) (.t 60), some (some 53, true)⟩, []), (⟨(some 62), .load true 2 (.t 61), some (some 53, true)⟩, []), (⟨(some 63), .callv (.t 54) [(.t 58), (.t 62)], some (some 53, true)⟩, []), (⟨(some 64), .bin .lss (.t 63) (.c (.int .i64 0)), some (some 53, true)⟩, []), (⟨(some 65), .un .not (.t 64), some (some 53, true)⟩, []), (⟨(some 66), .pick (.t 53) (.t 65) (.c (.bool false)), none⟩, [])]) (.cond (.t 66) .skip (.exit 2))) (.block 3 (.region [ ⟨(some 67), .move (.t 13), none⟩, ⟨(some 68), .bin .sub (.t 67) (.c (.int .i64 1)), none⟩, ⟨(some 13), .move (.t 68), none⟩]))))) (.seq (.seq (.region [ ⟨(some 69), .move (.t 12), none⟩, ⟨(some 70), .move (.t 13), none⟩, ⟨(some 71), .bin .gtr (.t 69) (.t 70), none⟩]) (.cond (.t 71) (.seq (.draw [ (⟨(some 72), .move (.t 0), none⟩, []), (⟨(some 73), .move (.t 13), none⟩, []), (⟨(some 74), .move (.t 0), none⟩, []), (⟨(some 75), .move (.t 1), none⟩, []), (⟨(some 76), .move (.t 0), none⟩, []), (⟨(some 77), .move (.t 1), none⟩, []), (⟨(some 78), .indexAddr 2 (.t 76) (.t 77), none⟩, []), (⟨(some 79), .load true 2 (.t 78), none⟩, []), (⟨(some 80), .move (.t 0), none⟩, []), (⟨(some 81), .move (.t 13), none⟩, []), (⟨(some 82), .indexAddr 2 (.t 80) (.t 81), none⟩, []), (⟨(some 83), .load true 2 (.t 82), none⟩, []), (⟨(some 84), .indexAddr 2 (.t 72) (.t 73), none⟩, []), (⟨none, .store 2 (.t 84) (.t 79), none⟩, []), (⟨(some 85), .indexAddr 2 (.t 74) (.t 75), none⟩, []), (⟨none, .store 2 (.t 85) (.t 83), none⟩, [])]) (.seq (.region [ ⟨(some 86), .move (.t 13), none⟩, ⟨(some 10), .move (.t 86), none⟩, ⟨(some 11), .move (.c (.bool true)), none⟩]) .ret)) .skip)) (.seq (.draw [ (⟨(some 87), .move (.t 0), none⟩, []), (⟨(some 88), .move (.t 12), none⟩, []), (⟨(some 89), .move (.t 0), none⟩, []), (⟨(some 90), .move (.t 13), none⟩, []), (⟨(some 91), .move (.t 0), none⟩, []), (⟨(some 92), .move (.t 13), none⟩, []), (⟨(some 93), .indexAddr 2 (.t 91) (.t 92), none⟩, []), (⟨(some 94), .load true 2 (.t 93), none⟩, []), (⟨(some 95), .move (.t 0), none⟩, []), (⟨(some 96), .move (.t 12), none⟩, []), (⟨(some 97), .indexAddr 2 (.t 95) (.t 96), none⟩, []), (⟨(some 98), .load true 2 (.t 97), none⟩, []), (⟨(some 99), .indexAddr 2 (.t 87) (.t 88), none⟩, []), (⟨none, .store 2 (.t 99) (.t 94), none⟩, []), (⟨(some 100), .indexAddr 2 (.t 89) (.t 90), none⟩, []), (⟨none, .store 2 (.t 100) (.t 98), none⟩, [])]) (.seq (.region [ ⟨(some 101), .move (.t 12), none⟩, ⟨(some 102), .bin .add (.t 101) (.c (.int .i64 1)), none⟩, ⟨(some 12), .move (.t 102), none⟩]) (.seq (.region [ ⟨(some 103), .move (.t 13), none⟩, ⟨(some 104), .bin .sub (.t 103) (.c (.int .i64 1)), none⟩, ⟨(some 13), .move (.t 104), none⟩]) (.seq (.block 4 (.loop (.block 5 (.seq (.block 6 (.loop (.seq (.seq (.draw [ (⟨(some 105), .move (.t 12), none⟩, []), (⟨(some 106), .move (.t 13), none⟩, []), (⟨(some 107), .bin .leq (.t 105) (.t 106), none⟩, []), (⟨(some 108), .move (.t 107), none⟩, []), (⟨(some 109), .move (.t 4), some (some 108, true)⟩, []), (⟨(some 110), .move (.t 0), some (some 108, true)⟩, []), (⟨(some 111), .move (.t 12), some (some 108, true)⟩, []), (⟨(some 112), .indexAddr 2 (.t 110) (.t 111), some (some 108, true)⟩, []), (⟨(some 113), .load true 2 (.t 112), some (some 108, true)⟩, []), (⟨(some 114), .move (.t 0), some (some 108, true)⟩, []), (⟨(some 115), .move (.t 1), some (some 108, true)⟩, []), (⟨(some 116), .indexAddr 2 (.t 114) (.t 115), some (some 108, true)⟩, []), (⟨(some 117), .load true 2 (.t 116), some (some 108, true)⟩, []), (⟨(some 118), .callv (.t 109) [(.t 113), (.t 117)], some (some 108, true)⟩, []), (⟨(some 119), .bin .lss (.t 118) (.c (.int .i64 0)), some (some 108, true)⟩, []), (⟨(some 120), .pick (.t 108) (.t 119) (.c (.bool false)), none⟩, [])]) (.cond (.t 120) .skip (.exit 6))) (.block 7 (.region [ ⟨(some 121), .move (.t 12), none⟩, ⟨(some 122), .bin .add (.t 121) (.c (.int .i64 1)), none⟩, ⟨(some 12), .move (.t 122), none⟩]))))) (.seq (.block 8 (.loop (.seq (.seq (.draw [ (⟨(some 123), .move (.t 12), none⟩, []), (⟨(some 124), .move (.t 13), none⟩, []), (⟨(some 125), .bin .leq (.t 123) (.t 124), none⟩, []), (⟨(some 126), .move (.t 125), none⟩, []), (⟨(some 127), .move (.t 4), some (some 126, true)⟩, []), (⟨(some 128), .move (.t 0), some (some 126, true)⟩, []), (⟨(some 129), .move (.t 13), some (some 126, true)⟩, []), (⟨(some 130), .indexAddr 2 (.t 128) (.t 129), some (some 126, true)⟩, []), (⟨(some 131), .load true 2 (.t 130), some (some 126, true)⟩, []), (⟨(some 132), .move (.t 0), some (some 126, true)⟩, []), (⟨(some 133), .move (.t 1), some (some 126, true)⟩, []), (⟨(some 134), .indexAddr 2 (.t 132) (.t 133), some (some 126, true)⟩, []), (⟨(some 135), .load true 2 (.t 134), some (some 126, true)⟩, []), (⟨(some 136), .callv (.t 127) [(.t 131), (.t 135)], some (some 126, true)⟩, []), (⟨(some 137), .bin .lss (.t 136) (.c (.int .i64 0)), some (some 126, true)⟩, []), (⟨(some 138), .un .not (.t 137), some (some 126, true)⟩, []), (⟨(some 139), .pick (.t 126) (.t 138) (.c (.bool false)), none⟩, [])]) (.cond (.t 139) .skip (.exit 8))) (.block 9 (.region [ ⟨(some 140), .move (.t 13), none⟩, ⟨(some 141), .bin .sub (.t 140) (.c (.int .i64 1)), none⟩, ⟨(some 13), .move (.t 141), none⟩]))))) (.seq (.seq (.region [ ⟨(some 142), .move (.t 12), none⟩, ⟨(some 143), .move (.t 13), none⟩, ⟨(some 144), .bin .gtr (.t 142) (.t 143), none⟩]) (.cond (.t 144) (.exit 4) .skip)) (.seq (.draw [ (⟨(some 145), .move (.t 0), none⟩, []), (⟨(some 146), .move (.t 12), none⟩, []), (⟨(some 147), .move (.t 0), none⟩, []), (⟨(some 148), .move (.t 13), none⟩, []), (⟨(some 149), .move (.t 0), none⟩, []), (⟨(some 150), .move (.t 13), none⟩, []), (⟨(some 151), .indexAddr 2 (.t 149) (.t 150), none⟩, []), (⟨(some 152), .load true 2 (.t 151), none⟩, []), (⟨(some 153), .move (.t 0), none⟩, []), (⟨(some 154), .move (.t 12), none⟩, []), (⟨(some 155), .indexAddr 2 (.t 153) (.t 154), none⟩, []), (⟨(some 156), .load true 2 (.t 155), none⟩, []), (⟨(some 157), .indexAddr 2 (.t 145) (.t 146), none⟩, []), (⟨none, .store 2 (.t 157) (.t 152), none⟩, []), (⟨(some 158), .indexAddr 2 (.t 147) (.t 148), none⟩, []), (⟨none, .store 2 (.t 158) (.t 156), none⟩, [])]) (.seq (.region [ ⟨(some 159), .move (.t 12), none⟩, ⟨(some 160), .bin .add (.t 159) (.c (.int .i64 1)), none⟩, ⟨(some 12), .move (.t 160), none⟩]) (.region [ ⟨(some 161), .move (.t 13), none⟩, ⟨(some 162), .bin .sub (.t 161) (.c (.int .i64 1)), none⟩, ⟨(some 13), .move (.t 162), none⟩]))))))))) (.seq (.draw [ (⟨(some 163), .move (.t 0), none⟩, []), (⟨(some 164), .move (.t 13), none⟩, []), (⟨(some 165), .move (.t 0), none⟩, []), (⟨(some 166), .move (.t 1), none⟩, []), (⟨(some 167), .move (.t 0), none⟩, []), (⟨(some 168), .move (.t 1), none⟩, []), (⟨(some 169), .indexAddr 2 (.t 167) (.t 168), none⟩, []), (⟨(some 170), .load true 2 (.t 169), none⟩, []), (⟨(some 171), .move (.t 0), none⟩, []), (⟨(some 172), .move (.t 13), none⟩, []), (⟨(some 173), .indexAddr 2 (.t 171) (.t 172), none⟩, []), (⟨(some 174), .load true 2 (.t 173), none⟩, []), (⟨(some 175), .indexAddr 2 (.t 163) (.t 164), none⟩, []), (⟨none, .store 2 (.t 175) (.t 170), none⟩, []), (⟨(some 176), .indexAddr 2 (.t 165) (.t 166), none⟩, []), (⟨none, .store 2 (.t 176) (.t 174), none⟩, [])]) (.seq (.region [ ⟨(some 177), .move (.t 13), none⟩, ⟨(some 10), .move (.t 177), none⟩, ⟨(some 11), .move (.c (.bool false)), none⟩]) .ret))))))))))))⟩

structure F_slices_partitionCmpFunc_Entry (P : Program) where
  id : FuncId
  has : Has P id [] c_slices_partitionCmpFunc_Entry

def c_slices_pdqsortCmpFunc_Entry (f_slices_insertionSortCmpFunc_Entry : FuncId) (f_slices_heapSortCmpFunc_Entry : FuncId) (f_slices_breakPatternsCmpFunc_Entry : FuncId) (f_slices_choosePivotCmpFunc_Entry : FuncId) (f_slices_reverseRangeCmpFunc_Entry : FuncId) (f_slices_partialInsertionSortCmpFunc_Entry : FuncId) (f_slices_partitionEqualCmpFunc_Entry : FuncId) (f_slices_partitionCmpFunc_Entry : FuncId) (f_slices_pdqsortCmpFunc_Entry : FuncId) : AFunc := ⟨148, [], (.seq (.region [ ⟨(some 10), .move (.c (.bool true)), none⟩]) (.seq (.region [ ⟨(some 11), .move (.c (.bool true)), none⟩]) (.block 0 (.loop (.block 1 (.seq (.region [ ⟨(some 21), .move (.t 2), none⟩, ⟨(some 22), .move (.t 1), none⟩, ⟨(some 23), .bin .sub (.t 21) (.t 22), none⟩, ⟨(some 12), .move (.t 23), none⟩]) (.seq (.seq (.region [ ⟨(some 24), .move (.t 12), none⟩, ⟨(some 25), .bin .leq (.t 24) (.c (.int .i64 12)), none⟩]) (.cond (.t 25) (.seq (.region [ ⟨(some 26), .move (.t 0), none⟩, ⟨(some 27), .move (.t 1), none⟩, ⟨(some 28), .move (.t 2), none⟩, ⟨(some 29), .move (.t 4), none⟩, ⟨(some 30), .call f_slices_insertionSortCmpFunc_Entry [(.t 26), (.t 27), (.t 28), (.t 29)], none⟩]) .ret) .skip)) (.seq (.seq (.region [ ⟨(some 31), .move (.t 3), none⟩, ⟨(some 32), .bin .eql (.t 31) (.c (.int .i64 0)), none⟩]) (.cond (.t 32) (.seq (.region [ ⟨(some 33), .move (.t 0), none⟩, ⟨(some 34), .move (.t 1), none⟩, ⟨(some 35), .move (.t 2), none⟩, ⟨(some 36), .move (.t 4), none⟩, ⟨(some 37), .call f_slices_heapSortCmpFunc_Entry [(.t 33), (.t 34), (.t 35), (.t 36)], none⟩]) .ret) .skip)) (.seq (.seq (.region [ ⟨(some 38), .move (.t 10), none⟩, ⟨(some 39), .un .not (.t 38), none⟩]) (.cond (.t 39) (.seq (.region [ ⟨(some 40), .move (.t 0), none⟩, ⟨(some 41), .move (.t 1), none⟩, ⟨(some 42), .move (.t 2), none⟩, ⟨(some 43), .move (.t 4), none⟩, ⟨(some 44), .call f_slices_breakPatternsCmpFunc_Entry [(.t 40), (.t 41), (.t 42), (.t 43)], none⟩]) (.region [ ⟨(some 45), .move (.t 3), none⟩, ⟨(some 46), .bin .sub (.t 45) (.c (.int .i64 1)), none⟩, ⟨(some 3), .move (.t 46), none⟩])) .skip)) (.seq (.region [ ⟨(some 48), .move (.t 0), none⟩, ⟨(some 49), .move (.t 1), none⟩, ⟨(some 50), .move (.t 2), none⟩, ⟨(some 51), .move (.t 4), none⟩, ⟨(some 52), .call f_slices_choosePivotCmpFunc_Entry [(.t 48), (.t 49), (.t 50), (.t 51)], none⟩, ⟨(some 47), .move (.t 52), none⟩, ⟨(some 53), .extract (.t 47) 0, none⟩, ⟨(some 54), .extract (.t 47) 1, none⟩, ⟨(some 13), .move (.t 53), none⟩, ⟨(some 14), .move (.t 54), none⟩]) (.seq (.seq (.region [ ⟨(some 55), .move (.t 14), none⟩, ⟨(some 56), .bin .eql (.t 55) (.c (.int .i64 2)), none⟩]) (.cond (.t 56) (.seq (.region [ ⟨(some 57), .move (.t 0), none⟩, ⟨(some 58), .move (.t 1), none⟩, ⟨(some 59), .move (.t 2), none⟩, ⟨(some 60), .move (.t 4), none⟩, ⟨(some 61), .call f_slices_reverseRangeCmpFunc_Entry [(.t 57), (.t 58), (.t 59), (.t 60)], none⟩]) (.seq (.region [ ⟨(some 62), .move (.t 2), none⟩, ⟨(some 63), .bin .sub (.t 62) (.c (.int .i64 1)), none⟩, ⟨(some 64), .move (.t 13), none⟩, ⟨(some 65), .move (.t 1), none⟩, ⟨(some 66), .bin .sub (.t 64) (.t 65), none⟩, ⟨(some 67), .bin .sub (.t 63) (.t 66), none⟩, ⟨(some 13), .move (.t 67), none⟩]) (.region [ ⟨(some 14), .move (.c (.int .i64 1)), none⟩]))) .skip)) (.seq (.seq (.region [ ⟨(some 68), .move (.t 10), none⟩, ⟨(some 69), .move (.t 68), none⟩, ⟨(some 70), .move (.t 11), some (some 69, true)⟩, ⟨(some 71), .pick (.t 69) (.t 70) (.c (.bool false)), none⟩, ⟨(some 72), .move (.t 71), none⟩, ⟨(some 73), .move (.t 14), some (some 72, true)⟩, ⟨(some 74), .bin .eql (.t 73) (.c (.int .i64 1)), some (some 72, true)⟩, ⟨(some 75), .pick (.t 72) (.t 74) (.c (.bool false)), none⟩]) (.cond (.t 75) (.seq (.region [ ⟨(some 76), .move (.t 0), none⟩, ⟨(some 77), .move (.t 1), none⟩, ⟨(some 78), .move (.t 2), none⟩, ⟨(some 79), .move (.t 4), none⟩, ⟨(some 80), .call f_slices_partialInsertionSortCmpFunc_Entry [(.t 76), (.t 77), (.t 78), (.t 79)], none⟩]) (.cond (.t 80) .ret .skip)) .skip)) (.seq (.seq (.draw [ (⟨(some 81), .move (.t 1), none⟩, []), (⟨(some 82), .bin .gtr (.t 81) (.c (.int .i64 0)), none⟩, []), (⟨(some 83), .move (.t 82), none⟩, []), (⟨(some 84), .move (.t 4), some (some 83, true)⟩, []), (⟨(some 85), .move (.t 0), some (some 83, true)⟩, []), (⟨(some 86), .move (.t 1), some (some 83, true)⟩, []), (⟨(some 87), .bin .sub (.t 86) (.c (.int .i64 1)), some (some 83, true)⟩, []), (⟨(some 88), .indexAddr 2 (.t 85) (.t 87), some (some 83, true)⟩, []), (⟨(some 89), .load true 2 (.t 88), some (some 83, true)⟩, []), (⟨(some 90), .move (.t 0), some (some 83, true)⟩, []), (⟨(some 91), .move (.t 13), some (some 83, true)⟩, []), (⟨(some 92), .indexAddr 2 (.t 90) (.t 91), some (some 83, true)⟩, []), (⟨(some 93), .load true 2 (.t 92), some (some 83, true)⟩, []), (⟨(some 94), .callv (.t 84) [(.t 89), (.t 93)], some (some 83, true)⟩, []), (⟨(some 95), .bin .lss (.t 94) (.c (.int .i64 0)), some (some 83, true)⟩, []), (⟨(some 96), .un .not (.t 95), some (some 83, true)⟩, []), (⟨(some 97), .pick (.t 83) (.t 96) (.c (.bool false)), none⟩, [])]) (.cond (.t 97) (.seq (.region [ ⟨(some 98), .move (.t 0), none⟩, ⟨(some 99), .move (.t 1), none⟩, ⟨(some 100), .move (.t 2), none⟩, ⟨(some 101), .move (.t 13), none⟩, ⟨(some 102), .move (.t 4), none⟩, ⟨(some 103), .call f_slices_partitionEqualCmpFunc_Entry [(.t 98), (.t 99), (.t 100), (.t 101), (.t 102)], none⟩, ⟨(some 15), .move (.t 103), none⟩]) (.seq (.region [ ⟨(some 104), .move (.t 15), none⟩, ⟨(some 1), .move (.t 104), none⟩]) (.exit 1))) .skip)) (.seq (.region [ ⟨(some 106), .move (.t 0), none⟩, ⟨(some 107), .move (.t 1), none⟩, ⟨(some 108), .move (.t 2), none⟩, ⟨(some 109), .move (.t 13), none⟩, ⟨(some 110), .move (.t 4), none⟩, ⟨(some 111), .call f_slices_partitionCmpFunc_Entry [(.t 106), (.t 107), (.t 108), (.t 109), (.t 110)], none⟩, ⟨(some 105), .move (.t 111), none⟩, ⟨(some 112), .extract (.t 105) 0, none⟩, ⟨(some 113), .extract (.t 105) 1, none⟩, ⟨(some 16), .move (.t 112), none⟩, ⟨(some 17), .move (.t 113), none⟩]) (.seq (.region [ ⟨(some 114), .move (.t 17), none⟩, ⟨(some 11), .move (.t 114), none⟩]) (.seq (.region [ ⟨(some 115), .move (.t 16), none⟩, ⟨(some 116), .move (.t 1), none⟩, ⟨(some 117), .bin .sub (.t 115) (.t 116), none⟩, ⟨(some 118), .move (.t 2), none⟩, ⟨(some 119), .move (.t 16), none⟩, ⟨(some 120), .bin .sub (.t 118) (.t 119), none⟩, ⟨(some 18), .move (.t 117), none⟩, ⟨(some 19), .move (.t 120), none⟩]) (.seq (.region [ ⟨(some 121), .move (.t 12), none⟩, ⟨(some 122), .bin .quo (.t 121) (.c (.int .i64 8)), none⟩, ⟨(some 20), .move (.t 122), none⟩]) (.seq (.region [ ⟨(some 123), .move (.t 18), none⟩, ⟨(some 124), .move (.t 19), none⟩, ⟨(some 125), .bin .lss (.t 123) (.t 124), none⟩]) (.cond (.t 125) (.seq (.region [ ⟨(some 126), .move (.t 18), none⟩, ⟨(some 127), .move (.t 20), none⟩, ⟨(some 128), .bin .geq (.t 126) (.t 127), none⟩, ⟨(some 10), .move (.t 128), none⟩]) (.seq (.region [ ⟨(some 129), .move (.t 0), none⟩, ⟨(some 130), .move (.t 1), none⟩, ⟨(some 131), .move (.t 16), none⟩, ⟨(some 132), .move (.t 3), none⟩, ⟨(some 133), .move (.t 4), none⟩, ⟨(some 134), .call f_slices_pdqsortCmpFunc_Entry [(.t 129), (.t 130), (.t 131), (.t 132), (.t 133)], none⟩]) (.region [ ⟨(some 135), .move (.t 16), none⟩, ⟨(some 136), .bin .add (.t 135) (.c (.int .i64 1)), none⟩, ⟨(some 1), .move (.t 136), none⟩]))) (.seq (.region [ ⟨(some 137), .move (.t 19), none⟩, ⟨(some 138), .move (.t 20), none⟩, ⟨(some 139), .bin .geq (.t 137) (.t 138), none⟩, ⟨(some 10), .move (.t 139), none⟩]) (.seq (.region [ ⟨(some 140), .move (.t 0), none⟩, ⟨(some 141), .move (.t 16), none⟩, ⟨(some 142), .bin .add (.t 141) (.c (.int .i64 1)), none⟩, ⟨(some 143), .move (.t 2), none⟩, ⟨(some 144), .move (.t 3), none⟩, ⟨(some 145), .move (.t 4), none⟩, ⟨(some 146), .call f_slices_pdqsortCmpFunc_Entry [(.t 140), (.t 142), (.t 143), (.t 144), (.t 145)], none⟩]) (.region [ ⟨(some 147), .move (.t 16), none⟩, ⟨(some 2), .move (.t 147), none⟩]))))))))))))))))))))))⟩

structure F_slices_pdqsortCmpFunc_Entry (P : Program) where
  id : FuncId
  slices_insertionSortCmpFunc_Entry : F_slices_insertionSortCmpFunc_Entry P
  slices_heapSortCmpFunc_Entry : F_slices_heapSortCmpFunc_Entry P
  slices_breakPatternsCmpFunc_Entry : F_slices_breakPatternsCmpFunc_Entry P
  slices_choosePivotCmpFunc_Entry : F_slices_choosePivotCmpFunc_Entry P
  slices_reverseRangeCmpFunc_Entry : F_slices_reverseRangeCmpFunc_Entry P
  slices_partialInsertionSortCmpFunc_Entry : F_slices_partialInsertionSortCmpFunc_Entry P
  slices_partitionEqualCmpFunc_Entry : F_slices_partitionEqualCmpFunc_Entry P
  slices_partitionCmpFunc_Entry : F_slices_partitionCmpFunc_Entry P
  has : Has P id [] (c_slices_pdqsortCmpFunc_Entry slices_insertionSortCmpFunc_Entry.id slices_heapSortCmpFunc_Entry.id slices_breakPatternsCmpFunc_Entry.id slices_choosePivotCmpFunc_Entry.id slices_reverseRangeCmpFunc_Entry.id slices_partialInsertionSortCmpFunc_Entry.id slices_partitionEqualCmpFunc_Entry.id slices_partitionCmpFunc_Entry.id id)

def c_slices_SortFunc_LEntry_Entry (f_math_bits_Len : FuncId) (f_slices_pdqsortCmpFunc_Entry : FuncId) : AFunc := ⟨14, [], (.seq (.region [ ⟨(some 5), .move (.t 0), none⟩, ⟨(some 6), .len (.t 5), none⟩, ⟨(some 4), .move (.t 6), none⟩]) (.region [ ⟨(some 7), .move (.t 0), none⟩, ⟨(some 8), .move (.t 4), none⟩, ⟨(some 9), .move (.t 4), none⟩, ⟨(some 10), .conv .u64 (.t 9), none⟩, ⟨(some 11), .call f_math_bits_Len [(.t 10)], none⟩, ⟨(some 12), .move (.t 1), none⟩, ⟨(some 13), .call f_slices_pdqsortCmpFunc_Entry [(.t 7), (.c (.int .i64 0)), (.t 8), (.t 11), (.t 12)], none⟩]))⟩

structure F_slices_SortFunc_LEntry_Entry (P : Program) where
  id : FuncId
  math_bits_Len : F_math_bits_Len P
  slices_pdqsortCmpFunc_Entry : F_slices_pdqsortCmpFunc_Entry P
  has : Has P id [] (c_slices_SortFunc_LEntry_Entry math_bits_Len.id slices_pdqsortCmpFunc_Entry.id)

end Go.AW

namespace Go.AW
def c_bytes_Clone : AFunc := ⟨8, [.tmp 2], (.seq (.region [ ⟨(some 2), .move (.c .nil), none⟩]) (.seq (.seq (.region [ ⟨(some 3), .move (.t 0), none⟩, ⟨(some 4), .isNil false (.t 3), none⟩]) (.cond (.t 4) (.seq (.region [ ⟨(some 2), .move (.c .nil), none⟩]) .ret) .skip)) (.seq (.region [ ⟨(some 5), .buildSlice 1 0 [(.int .u8 0)] [], none⟩, ⟨(some 6), .move (.t 0), none⟩, ⟨(some 7), .append 1 1 [(.int .u8 0)] (.t 5) (.t 6), none⟩, ⟨(some 2), .move (.t 7), none⟩]) .ret)))⟩

structure F_bytes_Clone (P : Program) where
  id : FuncId
  has : Has P id [] c_bytes_Clone

def c_journal_put4 : AFunc := ⟨19, [.tmp 4], (.seq (.region [ ⟨(some 4), .move (.c .nil), none⟩]) (.seq (.region [ ⟨(some 5), .move (.t 0), none⟩, ⟨(some 6), .move (.t 1), none⟩, ⟨(some 7), .bin .shr (.t 6) (.c (.int .u64 24)), none⟩, ⟨(some 8), .conv .u8 (.t 7), none⟩, ⟨(some 9), .move (.t 1), none⟩, ⟨(some 10), .bin .shr (.t 9) (.c (.int .u64 16)), none⟩, ⟨(some 11), .conv .u8 (.t 10), none⟩, ⟨(some 12), .move (.t 1), none⟩, ⟨(some 13), .bin .shr (.t 12) (.c (.int .u64 8)), none⟩, ⟨(some 14), .conv .u8 (.t 13), none⟩, ⟨(some 15), .move (.t 1), none⟩, ⟨(some 16), .conv .u8 (.t 15), none⟩, ⟨(some 17), .buildSlice 1 4 [(.int .u8 0)] [(0, (.t 8)), (1, (.t 11)), (2, (.t 14)), (3, (.t 16))], none⟩, ⟨(some 18), .append 1 1 [(.int .u8 0)] (.t 5) (.t 17), none⟩, ⟨(some 4), .move (.t 18), none⟩]) .ret))⟩

structure F_journal_put4 (P : Program) where
  id : FuncId
  has : Has P id [] c_journal_put4

def c_journal_sum (f_journal_put4 : FuncId) (f_batch_Checksum : FuncId) : AFunc := ⟨10, [.tmp 2], (.seq (.region [ ⟨(some 2), .move (.c (.int .u32 0)), none⟩]) (.seq (.region [ ⟨(some 3), .move (.t 0), none⟩, ⟨(some 4), .len (.t 3), none⟩, ⟨(some 5), .conv .u32 (.t 4), none⟩, ⟨(some 6), .call f_journal_put4 [(.c .nil), (.t 5)], none⟩, ⟨(some 7), .move (.t 0), none⟩, ⟨(some 8), .append 1 1 [(.int .u8 0)] (.t 6) (.t 7), none⟩, ⟨(some 9), .call f_batch_Checksum [(.t 8)], none⟩, ⟨(some 2), .move (.t 9), none⟩]) .ret))⟩

structure F_journal_sum (P : Program) where
  id : FuncId
  journal_put4 : F_journal_put4 P
  batch_Checksum : F_batch_Checksum P
  has : Has P id [] (c_journal_sum journal_put4.id batch_Checksum.id)

def c_journal_Append (f_bytes_Clone : FuncId) (f_journal_put4 : FuncId) (f_journal_sum : FuncId) : AFunc := ⟨32, [.tmp 4, .tmp 5], (.seq (.region [ ⟨(some 4), .move (.c .nil), none⟩, ⟨(some 5), .move (.c (.int .i64 0)), none⟩]) (.seq (.seq (.region [ ⟨(some 7), .move (.t 1), none⟩, ⟨(some 8), .len (.t 7), none⟩, ⟨(some 9), .bin .gtr (.t 8) (.c (.int .i64 65536)), none⟩, ⟨(some 10), .move (.t 9), none⟩, ⟨(some 11), .move (.t 0), some (some 10, false)⟩, ⟨(some 12), .len (.t 11), some (some 10, false)⟩, ⟨(some 13), .bin .add (.t 12) (.c (.int .i64 8)), some (some 10, false)⟩, ⟨(some 14), .move (.t 1), some (some 10, false)⟩, ⟨(some 15), .len (.t 14), some (some 10, false)⟩, ⟨(some 16), .bin .add (.t 13) (.t 15), some (some 10, false)⟩, ⟨(some 17), .bin .gtr (.t 16) (.c (.int .i64 4194304)), some (some 10, false)⟩, ⟨(some 18), .pick (.t 10) (.c (.bool true)) (.t 17), none⟩]) (.cond (.t 18) (.seq (.region [ ⟨(some 4), .move (.c .nil), none⟩, ⟨(some 5), .move (.c (.int .i64 2)), none⟩]) .ret) .skip)) (.seq (.region [ ⟨(some 19), .move (.t 0), none⟩, ⟨(some 20), .call f_bytes_Clone [(.t 19)], none⟩, ⟨(some 21), .move (.t 1), none⟩, ⟨(some 22), .len (.t 21), none⟩, ⟨(some 23), .conv .u32 (.t 22), none⟩, ⟨(some 24), .call f_journal_put4 [(.t 20), (.t 23)], none⟩, ⟨(some 6), .move (.t 24), none⟩]) (.seq (.region [ ⟨(some 25), .move (.t 6), none⟩, ⟨(some 26), .move (.t 1), none⟩, ⟨(some 27), .call f_journal_sum [(.t 26)], none⟩, ⟨(some 28), .call f_journal_put4 [(.t 25), (.t 27)], none⟩, ⟨(some 6), .move (.t 28), none⟩]) (.seq (.region [ ⟨(some 29), .move (.t 6), none⟩, ⟨(some 30), .move (.t 1), none⟩, ⟨(some 31), .append 1 1 [(.int .u8 0)] (.t 29) (.t 30), none⟩, ⟨(some 4), .move (.t 31), none⟩, ⟨(some 5), .move (.c (.int .i64 0)), none⟩]) .ret)))))⟩

structure F_journal_Append (P : Program) where
  id : FuncId
  bytes_Clone : F_bytes_Clone P
  journal_put4 : F_journal_put4 P
  journal_sum : F_journal_sum P
  has : Has P id [] (c_journal_Append bytes_Clone.id journal_put4.id journal_sum.id)

def c_journal_number : AFunc := ⟨25, [.tmp 2], (.seq (.region [ ⟨(some 2), .move (.c (.int .i64 0)), none⟩]) (.seq (.draw [ (⟨(some 3), .move (.t 0), none⟩, []), (⟨(some 4), .indexAddr 1 (.t 3) (.c (.int .i64 0)), none⟩, []), (⟨(some 5), .load false 1 (.t 4), none⟩, []), (⟨(some 6), .conv .i64 (.t 5), none⟩, []), (⟨(some 7), .bin .shl (.t 6) (.c (.int .u64 24)), none⟩, []), (⟨(some 8), .move (.t 0), none⟩, []), (⟨(some 9), .indexAddr 1 (.t 8) (.c (.int .i64 1)), none⟩, []), (⟨(some 10), .load false 1 (.t 9), none⟩, []), (⟨(some 11), .conv .i64 (.t 10), none⟩, []), (⟨(some 12), .bin .shl (.t 11) (.c (.int .u64 16)), none⟩, []), (⟨(some 13), .bin .or (.t 7) (.t 12), none⟩, []), (⟨(some 14), .move (.t 0), none⟩, []), (⟨(some 15), .indexAddr 1 (.t 14) (.c (.int .i64 2)), none⟩, []), (⟨(some 16), .load false 1 (.t 15), none⟩, []), (⟨(some 17), .conv .i64 (.t 16), none⟩, []), (⟨(some 18), .bin .shl (.t 17) (.c (.int .u64 8)), none⟩, []), (⟨(some 19), .bin .or (.t 13) (.t 18), none⟩, []), (⟨(some 20), .move (.t 0), none⟩, []), (⟨(some 21), .indexAddr 1 (.t 20) (.c (.int .i64 3)), none⟩, []), (⟨(some 22), .load false 1 (.t 21), none⟩, []), (⟨(some 23), .conv .i64 (.t 22), none⟩, []), (⟨(some 24), .bin .or (.t 19) (.t 23), none⟩, []), (⟨(some 2), .move (.t 24), none⟩, [])]) .ret))⟩

structure F_journal_number (P : Program) where
  id : FuncId
  has : Has P id [] c_journal_number

def c_journal_entries_1 (f_journal_number : FuncId) (f_journal_sum : FuncId) : AFunc := ⟨52, [], (.seq (.region [ ⟨(some 3), .move (.c (.int .i64 0)), none⟩]) (.block 0 (.loop (.seq (.seq (.region [ ⟨(some 6), .load false 1 (.t 1), none⟩, ⟨(some 7), .len (.t 6), none⟩, ⟨(some 8), .move (.t 3), none⟩, ⟨(some 9), .bin .sub (.t 7) (.t 8), none⟩, ⟨(some 10), .bin .geq (.t 9) (.c (.int .i64 8)), none⟩]) (.cond (.t 10) .skip (.exit 0))) (.block 1 (.seq (.region [ ⟨(some 11), .load false 1 (.t 1), none⟩, ⟨(some 12), .move (.t 3), none⟩, ⟨(some 13), .slice 1 (.t 11) (some (.t 12)) none, none⟩, ⟨(some 14), .call f_journal_number [(.t 13)], none⟩, ⟨(some 4), .move (.t 14), none⟩]) (.seq (.seq (.region [ ⟨(some 15), .move (.t 4), none⟩, ⟨(some 16), .bin .gtr (.t 15) (.c (.int .i64 65536)), none⟩, ⟨(some 17), .move (.t 16), none⟩, ⟨(some 18), .move (.t 4), some (some 17, false)⟩, ⟨(some 19), .load false 1 (.t 1), some (some 17, false)⟩, ⟨(some 20), .len (.t 19), some (some 17, false)⟩, ⟨(some 21), .move (.t 3), some (some 17, false)⟩, ⟨(some 22), .bin .sub (.t 20) (.t 21), some (some 17, false)⟩, ⟨(some 23), .bin .sub (.t 22) (.c (.int .i64 8)), some (some 17, false)⟩, ⟨(some 24), .bin .gtr (.t 18) (.t 23), some (some 17, false)⟩, ⟨(some 25), .pick (.t 17) (.c (.bool true)) (.t 24), none⟩]) (.cond (.t 25) .ret .skip)) (.seq (.region [ ⟨(some 26), .load false 1 (.t 1), none⟩, ⟨(some 27), .move (.t 3), none⟩, ⟨(some 28), .bin .add (.t 27) (.c (.int .i64 8)), none⟩, ⟨(some 29), .move (.t 3), none⟩, ⟨(some 30), .bin .add (.t 29) (.c (.int .i64 8)), none⟩, ⟨(some 31), .move (.t 4), none⟩, ⟨(some 32), .bin .add (.t 30) (.t 31), none⟩, ⟨(some 33), .slice 1 (.t 26) (some (.t 28)) (some (.t 32)), none⟩, ⟨(some 5), .move (.t 33), none⟩]) (.seq (.seq (.region [ ⟨(some 34), .load false 1 (.t 1), none⟩, ⟨(some 35), .move (.t 3), none⟩, ⟨(some 36), .bin .add (.t 35) (.c (.int .i64 4)), none⟩, ⟨(some 37), .slice 1 (.t 34) (some (.t 36)) none, none⟩, ⟨(some 38), .call f_journal_number [(.t 37)], none⟩, ⟨(some 39), .conv .u32 (.t 38), none⟩, ⟨(some 40), .move (.t 5), none⟩, ⟨(some 41), .call f_journal_sum [(.t 40)], none⟩, ⟨(some 42), .bin .neq (.t 39) (.t 41), none⟩]) (.cond (.t 42) .ret .skip)) (.seq (.region [ ⟨(some 43), .move (.t 3), none⟩, ⟨(some 44), .move (.t 4), none⟩, ⟨(some 45), .bin .add (.c (.int .i64 8)) (.t 44), none⟩, ⟨(some 46), .bin .add (.t 43) (.t 45), none⟩, ⟨(some 3), .move (.t 46), none⟩]) (.seq (.region [ ⟨(some 47), .move (.t 0), none⟩, ⟨(some 48), .move (.t 5), none⟩, ⟨(some 49), .move (.t 3), none⟩, ⟨(some 50), .callv (.t 47) [(.t 48), (.t 49)], none⟩, ⟨(some 51), .un .not (.t 50), none⟩]) (.cond (.t 51) .ret .skip))))))))))))⟩

structure F_journal_entries_1 (P : Program) where
  id : FuncId
  journal_number : F_journal_number P
  journal_sum : F_journal_sum P
  has : Has P id [] (c_journal_entries_1 journal_number.id journal_sum.id)

def c_journal_entries (f_journal_entries_1 : FuncId) : AFunc := ⟨4, [.tmp 2], (.seq (.region [ ⟨(some 1), .box (.t 0), none⟩, ⟨(some 2), .move (.c .junk), none⟩]) (.seq (.region [ ⟨(some 3), .makeFunc f_journal_entries_1 [(.t 1)], none⟩, ⟨(some 2), .move (.t 3), none⟩]) .ret))⟩

structure F_journal_entries (P : Program) where
  id : FuncId
  journal_entries_1 : F_journal_entries_1 P
  has : Has P id [] (c_journal_entries journal_entries_1.id)

def c_journal_Read (f_journal_entries : FuncId) : AFunc := ⟨20, [.tmp 2, .tmp 3], (.seq (.region [ ⟨(some 2), .move (.c .nil), none⟩, ⟨(some 3), .move (.c (.int .i64 0)), none⟩]) (.seq (.region [ ⟨(some 4), .alloc [.nil], none⟩]) (.seq (.region [ ⟨(some 5), .alloc [(.int .i64 0)], none⟩, ⟨none, .store 1 (.t 5) (.c (.int .i64 0)), none⟩]) (.seq (.seq (.region [ ⟨(some 8), .move (.t 0), none⟩, ⟨(some 9), .call f_journal_entries [(.t 8)], none⟩]) (.block 0 .stuck)) (.seq (.draw [ (⟨(some 18), .load false 1 (.t 4), none⟩, []), (⟨(some 19), .load false 1 (.t 5), none⟩, []), (⟨(some 2), .move (.t 18), none⟩, []), (⟨(some 3), .move (.t 19), none⟩, [])]) .ret)))))⟩

structure F_journal_Read (P : Program) where
  id : FuncId
  journal_entries : F_journal_entries P
  has : Has P id [] (c_journal_Read journal_entries.id)

def c_journal_Repair (f_journal_Read : FuncId) (f_bytes_Clone : FuncId) : AFunc := ⟨14, [.tmp 2], (.seq (.region [ ⟨(some 2), .move (.c .nil), none⟩]) (.seq (.region [ ⟨(some 6), .move (.t 0), none⟩, ⟨(some 7), .call f_journal_Read [(.t 6)], none⟩, ⟨(some 5), .move (.t 7), none⟩, ⟨(some 8), .extract (.t 5) 0, none⟩, ⟨(some 9), .extract (.t 5) 1, none⟩, ⟨(some 3), .move (.t 8), none⟩, ⟨(some 4), .move (.t 9), none⟩]) (.seq (.region [ ⟨(some 10), .move (.t 0), none⟩, ⟨(some 11), .move (.t 4), none⟩, ⟨(some 12), .slice 1 (.t 10) none (some (.t 11)), none⟩, ⟨(some 13), .call f_bytes_Clone [(.t 12)], none⟩, ⟨(some 2), .move (.t 13), none⟩]) .ret)))⟩

structure F_journal_Repair (P : Program) where
  id : FuncId
  journal_Read : F_journal_Read P
  bytes_Clone : F_bytes_Clone P
  has : Has P id [] (c_journal_Repair journal_Read.id bytes_Clone.id)

def c_warehouselaw35_known (f_journal_Append : FuncId) (f_journal_Read : FuncId) (f_journal_Repair : FuncId) : AFunc := ⟨65, [.tmp 0], (.seq (.region [ ⟨(some 0), .move (.c (.bool false)), none⟩]) (.seq (.region [ ⟨(some 8), .call f_journal_Append [(.c .nil), (.c .nil)], none⟩, ⟨(some 7), .move (.t 8), none⟩, ⟨(some 9), .extract (.t 7) 0, none⟩, ⟨(some 10), .extract (.t 7) 1, none⟩, ⟨(some 1), .move (.t 9), none⟩, ⟨(some 2), .move (.t 10), none⟩]) (.seq (.seq (.region [ ⟨(some 12), .move (.t 1), none⟩, ⟨(some 13), .buildSliceO 1 2 [(.int .u8 0)] [(0, (.c (.int .u8 120))), (1, (.c (.int .u8 121)))], none⟩, ⟨(some 14), .mark (.t 13), none⟩, ⟨(some 15), .call f_journal_Append [(.t 12), (.t 14)], none⟩, ⟨(some 11), .move (.t 15), none⟩, ⟨(some 16), .extract (.t 11) 0, none⟩, ⟨(some 17), .extract (.t 11) 1, none⟩, ⟨(some 3), .move (.t 16), none⟩, ⟨(some 4), .move (.t 17), none⟩]) .ghost) (.seq (.region [ ⟨(some 19), .move (.t 3), none⟩, ⟨(some 20), .append 1 1 [(.int .u8 0)] (.c .nil) (.t 19), none⟩, ⟨(some 21), .buildSlice 1 3 [(.int .u8 0)] [(0, (.c (.int .u8 0))), (1, (.c (.int .u8 0))), (2, (.c (.int .u8 0)))], none⟩, ⟨(some 22), .append 1 1 [(.int .u8 0)] (.t 20) (.t 21), none⟩, ⟨(some 23), .call f_journal_Read [(.t 22)], none⟩, ⟨(some 18), .move (.t 23), none⟩, ⟨(some 24), .extract (.t 18) 0, none⟩, ⟨(some 25), .extract (.t 18) 1, none⟩, ⟨(some 5), .move (.t 24), none⟩, ⟨(some 6), .move (.t 25), none⟩]) (.seq (.region [ ⟨(some 26), .move (.t 2), none⟩, ⟨(some 27), .bin .eql (.t 26) (.c (.int .i64 0)), none⟩, ⟨(some 28), .move (.t 27), none⟩, ⟨(some 29), .move (.t 1), some (some 28, true)⟩, ⟨(some 30), .len (.t 29), some (some 28, true)⟩, ⟨(some 31), .bin .eql (.t 30) (.c (.int .i64 8)), some (some 28, true)⟩, ⟨(some 32), .pick (.t 28) (.t 31) (.c (.bool false)), none⟩, ⟨(some 33), .move (.t 32), none⟩, ⟨(some 34), .move (.t 4), some (some 33, true)⟩, ⟨(some 35), .bin .eql (.t 34) (.c (.int .i64 0)), some (some 33, true)⟩, ⟨(some 36), .pick (.t 33) (.t 35) (.c (.bool false)), none⟩, ⟨(some 37), .move (.t 36), none⟩, ⟨(some 38), .move (.t 3), some (some 37, true)⟩, ⟨(some 39), .len (.t 38), some (some 37, true)⟩, ⟨(some 40), .bin .eql (.t 39) (.c (.int .i64 18)), some (some 37, true)⟩, ⟨(some 41), .pick (.t 37) (.t 40) (.c (.bool false)), none⟩, ⟨(some 42), .move (.t 41), none⟩, ⟨(some 43), .move (.t 6), some (some 42, true)⟩, ⟨(some 44), .bin .eql (.t 43) (.c (.int .i64 18)), some (some 42, true)⟩, ⟨(some 45), .pick (.t 42) (.t 44) (.c (.bool false)), none⟩, ⟨(some 46), .move (.t 45), none⟩, ⟨(some 47), .move (.t 5), some (some 46, true)⟩, ⟨(some 48), .len (.t 47), some (some 46, true)⟩, ⟨(some 49), .bin .eql (.t 48) (.c (.int .i64 2)), some (some 46, true)⟩, ⟨(some 50), .pick (.t 46) (.t 49) (.c (.bool false)), none⟩, ⟨(some 51), .move (.t 50), none⟩, ⟨(some 52), .move (.t 5), some (some 51, true)⟩, ⟨(some 53), .indexAddr 1 (.t 52) (.c (.int .i64 1)), some (some 51, true)⟩, ⟨(some 54), .load false 1 (.t 53), some (some 51, true)⟩, ⟨(some 55), .convBS (.t 54), some (some 51, true)⟩, ⟨(some 56), .bin .eql (.t 55) (.c (.str (bs [120, 121]))), some (some 51, true)⟩, ⟨(some 57), .pick (.t 51) (.t 56) (.c (.bool false)), none⟩, ⟨(some 58), .move (.t 57), none⟩, ⟨(some 59), .move (.t 3), some (some 58, true)⟩, ⟨(some 60), .slice 1 (.t 59) none (some (.c (.int .i64 17))), some (some 58, true)⟩, ⟨(some 61), .call f_journal_Repair [(.t 60)], some (some 58, true)⟩, ⟨(some 62), .len (.t 61), some (some 58, true)⟩, ⟨(some 63), .bin .eql (.t 62) (.c (.int .i64 8)), some (some 58, true)⟩, ⟨(some 64), .pick (.t 58) (.t 63) (.c (.bool false)), none⟩, ⟨(some 0), .move (.t 64), none⟩]) .ret)))))⟩

structure F_warehouselaw35_known (P : Program) where
  id : FuncId
  journal_Append : F_journal_Append P
  journal_Read : F_journal_Read P
  journal_Repair : F_journal_Repair P
  has : Has P id [13, 100004] (c_warehouselaw35_known journal_Append.id journal_Read.id journal_Repair.id)

def c_warehouseref35_Number : AFunc := ⟨24, [.tmp 4], (.seq (.region [ ⟨(some 4), .move (.c .nil), none⟩]) (.seq (.region [ ⟨(some 7), .move (.t 1), none⟩, ⟨(some 8), .mkSlice 1 1 [(.int .u8 0)] (.t 7) (.t 7), none⟩, ⟨(some 5), .move (.t 8), none⟩]) (.seq (.seq (.region [ ⟨(some 9), .move (.t 1), none⟩, ⟨(some 10), .bin .sub (.t 9) (.c (.int .i64 1)), none⟩, ⟨(some 6), .move (.t 10), none⟩]) (.block 0 (.loop (.seq (.seq (.region [ ⟨(some 11), .move (.t 6), none⟩, ⟨(some 12), .bin .geq (.t 11) (.c (.int .i64 0)), none⟩]) (.cond (.t 12) .skip (.exit 0))) (.seq (.block 1 (.seq (.region [ ⟨(some 15), .move (.t 5), none⟩, ⟨(some 16), .move (.t 6), none⟩, ⟨(some 17), .move (.t 0), none⟩, ⟨(some 18), .bin .rem (.t 17) (.c (.int .i64 256)), none⟩, ⟨(some 19), .conv .u8 (.t 18), none⟩, ⟨(some 20), .indexAddr 1 (.t 15) (.t 16), none⟩, ⟨none, .store 1 (.t 20) (.t 19), none⟩]) (.region [ ⟨(some 21), .move (.t 0), none⟩, ⟨(some 22), .bin .quo (.t 21) (.c (.int .i64 256)), none⟩, ⟨(some 0), .move (.t 22), none⟩]))) (.region [ ⟨(some 13), .move (.t 6), none⟩, ⟨(some 14), .bin .sub (.t 13) (.c (.int .i64 1)), none⟩, ⟨(some 6), .move (.t 14), none⟩])))))) (.seq (.region [ ⟨(some 23), .move (.t 5), none⟩, ⟨(some 4), .move (.t 23), none⟩]) .ret))))⟩

structure F_warehouseref35_Number (P : Program) where
  id : FuncId
  has : Has P id [] c_warehouseref35_Number

def c_warehouseref35_Entry (f_warehouseref35_Number : FuncId) (f_warehouseref24_Checksum : FuncId) : AFunc := ⟨22, [.tmp 2], (.seq (.region [ ⟨(some 2), .move (.c .nil), none⟩]) (.seq (.region [ ⟨(some 5), .move (.t 0), none⟩, ⟨(some 6), .len (.t 5), none⟩, ⟨(some 7), .call f_warehouseref35_Number [(.t 6), (.c (.int .i64 4))], none⟩, ⟨(some 8), .move (.t 0), none⟩, ⟨(some 9), .append 1 1 [(.int .u8 0)] (.t 7) (.t 8), none⟩, ⟨(some 3), .move (.t 9), none⟩]) (.seq (.region [ ⟨(some 10), .move (.t 3), none⟩, ⟨(some 11), .slice 1 (.t 10) none (some (.c (.int .i64 4))), none⟩, ⟨(some 12), .append 1 1 [(.int .u8 0)] (.c .nil) (.t 11), none⟩, ⟨(some 4), .move (.t 12), none⟩]) (.seq (.region [ ⟨(some 13), .move (.t 4), none⟩, ⟨(some 14), .move (.t 3), none⟩, ⟨(some 15), .call f_warehouseref24_Checksum [(.t 14)], none⟩, ⟨(some 16), .conv .i64 (.t 15), none⟩, ⟨(some 17), .call f_warehouseref35_Number [(.t 16), (.c (.int .i64 4))], none⟩, ⟨(some 18), .append 1 1 [(.int .u8 0)] (.t 13) (.t 17), none⟩, ⟨(some 4), .move (.t 18), none⟩]) (.seq (.region [ ⟨(some 19), .move (.t 4), none⟩, ⟨(some 20), .move (.t 0), none⟩, ⟨(some 21), .append 1 1 [(.int .u8 0)] (.t 19) (.t 20), none⟩, ⟨(some 2), .move (.t 21), none⟩]) .ret)))))⟩

structure F_warehouseref35_Entry (P : Program) where
  id : FuncId
  warehouseref35_Number : F_warehouseref35_Number P
  warehouseref24_Checksum : F_warehouseref24_Checksum P
  has : Has P id [] (c_warehouseref35_Entry warehouseref35_Number.id warehouseref24_Checksum.id)

def c_warehouselaw35_light : AFunc := ⟨19, [.tmp 2], (.seq (.region [ ⟨(some 2), .move (.c (.bool false)), none⟩]) (.seq (.seq (.region [ ⟨(some 4), .move (.t 0), none⟩, ⟨(some 5), .len (.t 4), none⟩, ⟨(some 6), .bin .gtr (.t 5) (.c (.int .i64 20)), none⟩]) (.cond (.t 6) (.seq (.region [ ⟨(some 2), .move (.c (.bool false)), none⟩]) .ret) .skip)) (.seq (.seq (.region [ ⟨(some 7), .move (.t 0), none⟩, ⟨(some 8), .len (.t 7), none⟩, ⟨(some 9), .move (.c (.int .i64 0)), none⟩]) (.block 0 (.loop (.seq (.region [ ⟨(some 10), .bin .lss (.t 9) (.t 8), none⟩]) (.seq (.cond (.t 10) .skip (.exit 0)) (.seq (.block 1 (.seq (.region [ ⟨(some 11), .move (.t 9), none⟩, ⟨(some 3), .move (.t 11), none⟩]) (.seq (.region [ ⟨(some 12), .move (.t 0), none⟩, ⟨(some 13), .move (.t 3), none⟩, ⟨(some 14), .indexAddr 1 (.t 12) (.t 13), none⟩, ⟨(some 15), .load false 1 (.t 14), none⟩, ⟨(some 16), .len (.t 15), none⟩, ⟨(some 17), .bin .gtr (.t 16) (.c (.int .i64 300)), none⟩]) (.cond (.t 17) (.seq (.region [ ⟨(some 2), .move (.c (.bool false)), none⟩]) .ret) .skip)))) (.region [ ⟨(some 18), .bin .add (.t 9) (.c (.int .i64 1)), none⟩, ⟨(some 9), .move (.t 18), none⟩]))))))) (.seq (.region [ ⟨(some 2), .move (.c (.bool true)), none⟩]) .ret))))⟩

structure F_warehouselaw35_light (P : Program) where
  id : FuncId
  has : Has P id [] c_warehouselaw35_light

def c_warehouselaw35_same : AFunc := ⟨28, [.tmp 4], (.seq (.region [ ⟨(some 4), .move (.c (.bool false)), none⟩]) (.seq (.seq (.region [ ⟨(some 6), .move (.t 0), none⟩, ⟨(some 7), .len (.t 6), none⟩, ⟨(some 8), .move (.t 1), none⟩, ⟨(some 9), .len (.t 8), none⟩, ⟨(some 10), .bin .neq (.t 7) (.t 9), none⟩]) (.cond (.t 10) (.seq (.region [ ⟨(some 4), .move (.c (.bool false)), none⟩]) .ret) .skip)) (.seq (.seq (.region [ ⟨(some 11), .move (.t 0), none⟩, ⟨(some 12), .len (.t 11), none⟩, ⟨(some 13), .move (.c (.int .i64 0)), none⟩]) (.block 0 (.loop (.seq (.region [ ⟨(some 14), .bin .lss (.t 13) (.t 12), none⟩]) (.seq (.cond (.t 14) .skip (.exit 0)) (.seq (.block 1 (.seq (.region [ ⟨(some 15), .move (.t 13), none⟩, ⟨(some 5), .move (.t 15), none⟩]) (.seq (.draw [ (⟨(some 16), .move (.t 0), none⟩, []), (⟨(some 17), .move (.t 5), none⟩, []), (⟨(some 18), .indexAddr 1 (.t 16) (.t 17), none⟩, []), (⟨(some 19), .load false 1 (.t 18), none⟩, []), (⟨(some 20), .convBS (.t 19), none⟩, []), (⟨(some 21), .move (.t 1), none⟩, []), (⟨(some 22), .move (.t 5), none⟩, []), (⟨(some 23), .indexAddr 1 (.t 21) (.t 22), none⟩, []), (⟨(some 24), .load false 1 (.t 23), none⟩, []), (⟨(some 25), .convBS (.t 24), none⟩, []), (⟨(some 26), .bin .neq (.t 20) (.t 25), none⟩, [])]) (.cond (.t 26) (.seq (.region [ ⟨(some 4), .move (.c (.bool false)), none⟩]) .ret) .skip)))) (.region [ ⟨(some 27), .bin .add (.t 13) (.c (.int .i64 1)), none⟩, ⟨(some 13), .move (.t 27), none⟩]))))))) (.seq (.region [ ⟨(some 4), .move (.c (.bool true)), none⟩]) .ret))))⟩

structure F_warehouselaw35_same (P : Program) where
  id : FuncId
  has : Has P id [] c_warehouselaw35_same

def c_warehouselaw35_JournalOwns (f_warehouselaw35_light : FuncId) (f_warehouselaw35_known : FuncId) (f_warehouseref35_Entry : FuncId) (f_journal_Append : FuncId) (f_journal_Read : FuncId) (f_journal_Repair : FuncId) (f_warehouseworld_Place : FuncId) (f_warehouseworld_SameBytes : FuncId) (f_warehouselaw35_same : FuncId) : AFunc := ⟨136, [.tmp 6], (.seq (.region [ ⟨(some 6), .move (.c (.bool false)), none⟩]) (.seq (.seq (.region [ ⟨(some 22), .move (.t 0), none⟩, ⟨(some 23), .call f_warehouselaw35_light [(.t 22)], none⟩, ⟨(some 24), .un .not (.t 23), none⟩, ⟨(some 25), .move (.t 24), none⟩, ⟨(some 26), .move (.t 1), some (some 25, false)⟩, ⟨(some 27), .len (.t 26), some (some 25, false)⟩, ⟨(some 28), .bin .gtr (.t 27) (.c (.int .i64 300)), some (some 25, false)⟩, ⟨(some 29), .pick (.t 25) (.c (.bool true)) (.t 28), none⟩]) (.cond (.t 29) (.seq (.region [ ⟨(some 30), .call f_warehouselaw35_known [], none⟩, ⟨(some 6), .move (.t 30), none⟩]) .ret) .skip)) (.seq (.region [ ⟨(some 7), .move (.c .nil), none⟩]) (.seq (.seq (.region [ ⟨(some 31), .move (.t 0), none⟩, ⟨(some 32), .len (.t 31), none⟩, ⟨(some 33), .move (.c (.int .i64 0)), none⟩]) (.block 0 (.loop (.seq (.region [ ⟨(some 34), .bin .lss (.t 33) (.t 32), none⟩]) (.seq (.cond (.t 34) .skip (.exit 0)) (.seq (.block 1 (.seq (.region [ ⟨(some 35), .move (.t 33), none⟩, ⟨(some 8), .move (.t 35), none⟩]) (.region [ ⟨(some 36), .move (.t 7), none⟩, ⟨(some 37), .move (.t 0), none⟩, ⟨(some 38), .move (.t 8), none⟩, ⟨(some 39), .indexAddr 1 (.t 37) (.t 38), none⟩, ⟨(some 40), .load false 1 (.t 39), none⟩, ⟨(some 41), .call f_warehouseref35_Entry [(.t 40)], none⟩, ⟨(some 42), .append 1 1 [(.int .u8 0)] (.t 36) (.t 41), none⟩, ⟨(some 7), .move (.t 42), none⟩]))) (.region [ ⟨(some 43), .bin .add (.t 33) (.c (.int .i64 1)), none⟩, ⟨(some 33), .move (.t 43), none⟩]))))))) (.seq (.seq (.region [ ⟨(some 44), .move (.t 7), none⟩, ⟨(some 45), .len (.t 44), none⟩, ⟨(some 46), .bin .add (.t 45) (.c (.int .i64 400)), none⟩, ⟨(some 47), .mkSliceC 1 1 [(.int .u8 0)] (.c (.int .i64 0)) (.t 46), none⟩, ⟨(some 48), .move (.t 7), none⟩, ⟨(some 49), .append 1 1 [(.int .u8 0)] (.t 47) (.t 48), none⟩, ⟨(some 9), .move (.t 49), none⟩]) .ghost) (.seq (.region [ ⟨(some 51), .move (.t 9), none⟩, ⟨(some 52), .move (.t 1), none⟩, ⟨(some 53), .call f_journal_Append [(.t 51), (.t 52)], none⟩, ⟨(some 50), .move (.t 53), none⟩, ⟨(some 54), .extract (.t 50) 0, none⟩, ⟨(some 55), .extract (.t 50) 1, none⟩, ⟨(some 10), .move (.t 54), none⟩, ⟨(some 11), .move (.t 55), none⟩]) (.seq (.seq (.region [ ⟨(some 56), .move (.t 7), none⟩, ⟨(some 57), .append 1 1 [(.int .u8 0)] (.c .nil) (.t 56), none⟩, ⟨(some 58), .move (.t 1), none⟩, ⟨(some 59), .call f_warehouseref35_Entry [(.t 58)], none⟩, ⟨(some 60), .append 1 1 [(.int .u8 0)] (.t 57) (.t 59), none⟩, ⟨(some 12), .move (.t 60), none⟩]) .ghost) (.seq (.region [ ⟨(some 62), .move (.t 9), none⟩, ⟨(some 63), .call f_journal_Read [(.t 62)], none⟩, ⟨(some 61), .move (.t 63), none⟩, ⟨(some 64), .extract (.t 61) 0, none⟩, ⟨(some 65), .extract (.t 61) 1, none⟩, ⟨(some 13), .move (.t 64), none⟩, ⟨(some 14), .move (.t 65), none⟩]) (.seq (.region [ ⟨(some 66), .move (.t 9), none⟩, ⟨(some 67), .call f_journal_Repair [(.t 66)], none⟩, ⟨(some 15), .move (.t 67), none⟩]) (.seq (.seq (.region [ ⟨(some 68), .move (.t 9), none⟩, ⟨(some 69), .len (.t 68), none⟩, ⟨(some 70), .move (.c (.int .i64 0)), none⟩]) (.block 2 (.loop (.seq (.region [ ⟨(some 71), .bin .lss (.t 70) (.t 69), none⟩]) (.seq (.cond (.t 71) .skip (.exit 2)) (.seq (.block 3 (.seq (.region [ ⟨(some 72), .move (.t 70), none⟩, ⟨(some 16), .move (.t 72), none⟩]) (.region [ ⟨(some 73), .move (.t 9), none⟩, ⟨(some 74), .move (.t 16), none⟩, ⟨(some 75), .indexAddr 1 (.t 73) (.t 74), none⟩, ⟨none, .store 1 (.t 75) (.c (.int .u8 7)), none⟩]))) (.region [ ⟨(some 76), .bin .add (.t 70) (.c (.int .i64 1)), none⟩, ⟨(some 70), .move (.t 76), none⟩]))))))) (.seq (.seq (.region [ ⟨(some 77), .move (.t 9), none⟩, ⟨(some 78), .move (.t 9), none⟩, ⟨(some 79), .len (.t 78), none⟩, ⟨(some 80), .move (.t 9), none⟩, ⟨(some 81), .capS (.t 80), none⟩, ⟨(some 82), .slice 1 (.t 77) (some (.t 79)) (some (.t 81)), none⟩, ⟨(some 83), .len (.t 82), none⟩, ⟨(some 84), .move (.c (.int .i64 0)), none⟩]) (.block 4 (.loop (.seq (.region [ ⟨(some 85), .bin .lss (.t 84) (.t 83), none⟩]) (.seq (.cond (.t 85) .skip (.exit 4)) (.seq (.block 5 (.seq (.region [ ⟨(some 86), .indexAddr 1 (.t 82) (.t 84), none⟩, ⟨(some 87), .load false 1 (.t 86), none⟩, ⟨(some 18), .move (.t 87), none⟩]) (.seq (.region [ ⟨(some 88), .move (.t 18), none⟩, ⟨(some 89), .bin .neq (.t 88) (.c (.int .u8 0)), none⟩]) (.cond (.t 89) (.seq (.region [ ⟨(some 6), .move (.c (.bool false)), none⟩]) .ret) .skip)))) (.region [ ⟨(some 90), .bin .add (.t 84) (.c (.int .i64 1)), none⟩, ⟨(some 84), .move (.t 90), none⟩]))))))) (.seq (.seq (.region [ ⟨(some 91), .move (.t 2), none⟩, ⟨(some 92), .call f_warehouseworld_Place [(.t 91), (.c (.int .i64 5))], none⟩, ⟨(some 93), .bin .add (.c (.int .i64 65534)) (.t 92), none⟩, ⟨(some 94), .mkSlice 1 1 [(.int .u8 0)] (.t 93) (.t 93), none⟩, ⟨(some 19), .move (.t 94), none⟩]) .ghost) (.seq (.region [ ⟨(some 96), .move (.t 19), none⟩, ⟨(some 97), .call f_journal_Append [(.c .nil), (.t 96)], none⟩, ⟨(some 95), .move (.t 97), none⟩, ⟨(some 98), .extract (.t 95) 0, none⟩, ⟨(some 99), .extract (.t 95) 1, none⟩, ⟨(some 20), .move (.t 98), none⟩, ⟨(some 21), .move (.t 99), none⟩]) (.seq (.region [ ⟨(some 100), .move (.t 11), none⟩, ⟨(some 101), .bin .eql (.t 100) (.c (.int .i64 0)), none⟩, ⟨(some 102), .move (.t 101), none⟩, ⟨(some 103), .move (.t 10), some (some 102, true)⟩, ⟨(some 104), .move (.t 12), some (some 102, true)⟩, ⟨(some 105), .call f_warehouseworld_SameBytes [(.t 103), (.t 104)], some (some 102, true)⟩, ⟨(some 106), .pick (.t 102) (.t 105) (.c (.bool false)), none⟩, ⟨(some 107), .move (.t 106), none⟩, ⟨(some 108), .move (.t 13), some (some 107, true)⟩, ⟨(some 109), .move (.t 0), some (some 107, true)⟩, ⟨(some 110), .call f_warehouselaw35_same [(.t 108), (.t 109)], some (some 107, true)⟩, ⟨(some 111), .pick (.t 107) (.t 110) (.c (.bool false)), none⟩, ⟨(some 112), .move (.t 111), none⟩, ⟨(some 113), .move (.t 15), some (some 112, true)⟩, ⟨(some 114), .move (.t 7), some (some 112, true)⟩, ⟨(some 115), .call f_warehouseworld_SameBytes [(.t 113), (.t 114)], some (some 112, true)⟩, ⟨(some 116), .pick (.t 112) (.t 115) (.c (.bool false)), none⟩, ⟨(some 117), .move (.t 116), none⟩, ⟨(some 118), .move (.t 21), some (some 117, true)⟩, ⟨(some 119), .bin .eql (.t 118) (.c (.int .i64 0)), some (some 117, true)⟩, ⟨(some 120), .move (.t 19), some (some 117, true)⟩, ⟨(some 121), .len (.t 120), some (some 117, true)⟩, ⟨(some 122), .bin .leq (.t 121) (.c (.int .i64 65536)), some (some 117, true)⟩, ⟨(some 123), .eqb false (.t 119) (.t 122), some (some 117, true)⟩, ⟨(some 124), .pick (.t 117) (.t 123) (.c (.bool false)), none⟩, ⟨(some 125), .move (.t 124), none⟩, ⟨(some 126), .move (.t 21), some (some 125, true)⟩, ⟨(some 127), .bin .eql (.t 126) (.c (.int .i64 2)), some (some 125, true)⟩, ⟨(some 128), .move (.t 19), some (some 125, true)⟩, ⟨(some 129), .len (.t 128), some (some 125, true)⟩, ⟨(some 130), .bin .gtr (.t 129) (.c (.int .i64 65536)), some (some 125, true)⟩, ⟨(some 131), .eqb false (.t 127) (.t 130), some (some 125, true)⟩, ⟨(some 132), .pick (.t 125) (.t 131) (.c (.bool false)), none⟩, ⟨(some 133), .move (.t 132), none⟩, ⟨(some 134), .call f_warehouselaw35_known [], some (some 133, true)⟩, ⟨(some 135), .pick (.t 133) (.t 134) (.c (.bool false)), none⟩, ⟨(some 6), .move (.t 135), none⟩]) .ret))))))))))))))⟩

structure F_warehouselaw35_JournalOwns (P : Program) where
  id : FuncId
  warehouselaw35_light : F_warehouselaw35_light P
  warehouselaw35_known : F_warehouselaw35_known P
  warehouseref35_Entry : F_warehouseref35_Entry P
  journal_Append : F_journal_Append P
  journal_Read : F_journal_Read P
  journal_Repair : F_journal_Repair P
  warehouseworld_Place : F_warehouseworld_Place P
  warehouseworld_SameBytes : F_warehouseworld_SameBytes P
  warehouselaw35_same : F_warehouselaw35_same P
  has : Has P id [47, 100009, 100012, 100019] (c_warehouselaw35_JournalOwns warehouselaw35_light.id warehouselaw35_known.id warehouseref35_Entry.id journal_Append.id journal_Read.id journal_Repair.id warehouseworld_Place.id warehouseworld_SameBytes.id warehouselaw35_same.id)

end Go.AW

namespace Go.AW
variable [Draws]
open Go.RowKit
inductive Sh where
  | bool
  | int (k : IntKind)
  | str
  | slice (fs : List Sh)

def shapeFields (P : Program) (sh : TypeId → Option (List Sh)) : List Field → Nat → Option (List Sh)
  | [], _ => some []
  | f :: r, off => if f.offset = off then match sh f.type, shapeFields P sh r (off + P.cellsOf f.type) with
      | some a, some b => if a.length = P.cellsOf f.type then some (a ++ b) else none
      | _, _ => none
    else none

def shapeOf (P : Program) : Nat → TypeId → Option (List Sh)
  | 0, _ => none
  | n + 1, t => match P.underlying t with
    | some .bool => some [.bool]
    | some (.int k) => some [.int k]
    | some .string => some [.str]
    | some (.slice e) => match shapeOf P n e with
      | some l => if l.length = P.cellsOf e ∧ P.cellsOf e ≠ 0 then some [.slice l] else none
      | none => none
    | some (.struct fs) => match shapeFields P (shapeOf P n) fs.toList 0 with
      | some l => if l.length = P.cellsOf t then some l else none
      | none => none
    | _ => none

inductive ShOk : Sh → AVal → Prop where
  | bool (b : Bool) : ShOk .bool (.bool b)
  | int (k : IntKind) (n : Int) (h : (Lit.int k n).wf = true) : ShOk (.int k) (.int k n)
  | str (s : ByteArray) (h : s.size ≤ maxLen) : ShOk .str (.str s)
  | list (fs : List Sh) (es : List (List AVal)) (hb : es.length ≤ maxLen) (hl : ∀ e ∈ es, e.length = fs.length)
      (h : ∀ (e : List AVal) (i : Nat) (f : Sh) (d : AVal), e ∈ es → fs[i]? = some f → e[i]? = some d → ShOk f d) : ShOk (.slice fs) (.list false fs.length es)

def allC (w : World) (b : Nat) : Nat :=
  match w.heap[b]? with
  | some (.cells cells _ _) => cells.size
  | _ => 0

theorem allC_cell {w : World} {b i : Nat} {v : Value} (h : w.cell? ⟨b, i, none⟩ = some v) : i < allC w b := by
  unfold World.cell? at h
  unfold allC
  simp only [] at h
  split at h
  · rename_i hh
    rw [hh]
    simp only []
    exact (Array.getElem?_eq_some_iff.1 h).1
  · cases h

theorem ShOk.isCell {s : Sh} {a : AVal} (h : ShOk s a) : a.isCell = true := by cases h <;> rfl

section
variable {H : Type} {enc : TypeId × Value → H} {P : Program} {w : World} {spare : Nat → Bool} {held : Bool}
theorem cells?_get {a : Addr} {n : Nat} {cs : List Value} (h : w.cells? 0 a n = some cs) : cs.length = n ∧ ∀ i, i < n → w.cell? (a.add i) = cs[i]? := by
  unfold World.cells? at h
  rw [if_pos (Nat.zero_le _)] at h
  exact ⟨by simpa using Go.mapM_some_length h, fun i hi => Go.mapM_some_get h i i (by simp [hi])⟩

def RdAll (w : World) (shs : List Sh) (cs : List Value) : Prop :=
  ∃ asv : List AVal, asv.length = cs.length ∧ shs.length = cs.length ∧ (∀ (i : Nat) (s : Sh) (a : AVal), shs[i]? = some s → asv[i]? = some a → ShOk s a) ∧
    ∀ (i : Nat) (a : AVal) (c : Value), asv[i]? = some a → cs[i]? = some c → Rd (allC w) w a c

theorem RdAll.one {s : Sh} {a : AVal} {c : Value} (h : ShOk s a) (hr : Rd (allC w) w a c) : RdAll w [s] [c] := by
  refine ⟨[a], rfl, rfl, fun i s' a' h1 h2 => ?_, fun i a' c' h1 h2 => ?_⟩
  · cases i with
    | zero => simp at h1 h2; subst h1 h2; exact h
    | succ i => simp at h1
  · cases i with
    | zero => simp at h1 h2; subst h1 h2; exact hr
    | succ i => simp at h1

theorem RdAll.append {s1 s2 : List Sh} {c1 c2 : List Value} (h1 : RdAll w s1 c1) (h2 : RdAll w s2 c2) : RdAll w (s1 ++ s2) (c1 ++ c2) := by
  obtain ⟨a1, l1, m1, o1, r1⟩ := h1
  obtain ⟨a2, l2, m2, o2, r2⟩ := h2
  refine ⟨a1 ++ a2, by simp [l1, l2], by simp [m1, m2], fun i s a hs ha => ?_, fun i a c ha hc => ?_⟩
  · by_cases hi : i < c1.length
    · rw [List.getElem?_append_left (by omega)] at hs ha
      exact o1 i s a hs ha
    · rw [List.getElem?_append_right (by omega)] at hs ha
      rw [m1] at hs; rw [l1] at ha
      exact o2 _ s a hs ha
  · by_cases hi : i < c1.length
    · rw [List.getElem?_append_left (by omega)] at ha hc
      exact r1 i a c ha hc
    · rw [List.getElem?_append_right (by omega)] at ha hc
      rw [l1] at ha
      exact r2 _ a c ha hc

theorem RdAll.nil : RdAll w [] [] := ⟨[], rfl, rfl, fun i s a h => by simp at h, fun i a c h => by simp at h⟩

theorem open_fields {sh : TypeId → Option (List Sh)} (tr : Field → List Value → Prop) (htr : ∀ (f : Field) (cs : List Value) (l : List Sh), tr f cs → sh f.type = some l → RdAll w l cs) (cs : List Value) :
    ∀ (fs : List Field) (off : Nat) (l : List Sh), shapeFields P sh fs off = some l → (∀ f ∈ fs, tr f ((cs.drop f.offset).take (P.cellsOf f.type))) → off + l.length = cs.length → RdAll w l (cs.drop off)
  | [], off, l, h, _, hl => by
    simp only [shapeFields, Option.some.injEq] at h; subst h
    have : cs.drop off = [] := List.drop_eq_nil_of_le (by simp at hl; omega)
    rw [this]; exact .nil
  | f :: r, off, l, h, ht, hl => by
    simp only [shapeFields] at h
    split at h
    case isFalse => cases h
    rename_i ho
    split at h
    case h_2 => cases h
    rename_i a b h1 h2
    split at h
    case isFalse => cases h
    rename_i hlen
    cases h
    have hf := htr f _ _ (ht f (by simp)) h1
    have hr := open_fields tr htr cs r _ _ h2 (fun g hg => ht g (by simp [hg])) (by simp at hl; omega)
    rw [ho] at hf
    have := hf.append hr
    rwa [← List.drop_drop, List.take_append_drop] at this

theorem open_shape : ∀ (n : Nat) (fuel : Nat) (t : TypeId) (cs : List Value) (x : DataW H × List MemPlace) (l : List Sh), shapeOf P n t = some l → DataW.trod enc P w 0 spare held fuel t cs = some x → RdAll w l cs
  | 0, _, _, _, _, _, h, _ => by simp [shapeOf] at h
  | n + 1, fuel, t, cs, x, l, h, ht => by
    unfold shapeOf at h
    split at h
    · rename_i hu
      cases h
      cases fuel with
      | zero => simp [DataW.trod] at ht
      | succ m =>
        unfold DataW.trod at ht
        rw [hu] at ht
        split at ht <;> simp_all
        exact .one (.bool _) (.bool _)
    · rename_i k hu
      cases h
      cases fuel with
      | zero => simp [DataW.trod] at ht
      | succ m =>
        unfold DataW.trod at ht
        rw [hu] at ht
        split at ht <;> simp_all
        obtain ⟨⟨rfl, hw⟩, _⟩ := ht
        exact .one (.int _ _ hw) (.int _ _)
    · rename_i hu
      cases h
      cases fuel with
      | zero => simp [DataW.trod] at ht
      | succ m =>
        unfold DataW.trod at ht
        rw [hu] at ht
        split at ht <;> simp_all
        exact .one (.str _ ht.1) (.str _)
    · rename_i e hu
      split at h
      case h_2 => cases h
      rename_i fs hfs
      split at h
      case isFalse => cases h
      rename_i hlen'
      cases h
      have hlen := hlen'.1
      rcases DataW.trod_slice hu ht with ⟨rfl, _⟩ | ⟨a, len, cap, elems, rest, m, rfl, rfl, _, _, hl, hm, hel, hcell, _, _⟩
      · have hes : ShOk (.slice fs) (.list false fs.length []) := .list fs [] (Nat.zero_le _) (by simp) (by simp)
        exact .one hes (.list0 _ _ _ _ (by simp))
      · obtain ⟨b, off, spot⟩ := a
        have each : ∀ i, i < len → ∃ cells, w.cells? 0 ((Addr.mk b off spot).add (i * P.cellsOf e)) (P.cellsOf e) = some cells ∧ RdAll w fs cells := by
          intro i hi
          have h1 := hcell i hi
          rw [List.getElem?_eq_getElem (by omega), Option.bind_eq_some_iff] at h1
          obtain ⟨cells, h2, h3⟩ := h1
          exact ⟨cells, h2, open_shape n m e cells _ fs hfs h3⟩
        by_cases h0 : len = 0
        · subst h0
          have hes : ShOk (.slice fs) (.list false fs.length []) := .list fs [] (Nat.zero_le _) (by simp) (by simp)
          exact .one hes (.list0 _ _ _ _ (by simp))
        · by_cases hz : P.cellsOf e = 0
          · exact absurd hz hlen'.2
          · have hspot : spot = none := by
              obtain ⟨cells, h1, _⟩ := each 0 (by omega)
              obtain ⟨h2, h3⟩ := cells?_get h1
              have h4 := h3 0 (by omega)
              rw [List.getElem?_eq_getElem (by omega)] at h4
              have := World.cell?_spot h4
              simpa [Addr.add] using this
            subst hspot
            
            have hch : ∃ F : Nat → List AVal, ∀ i, i < len → (F i).length = fs.length ∧ (∀ (j : Nat) (s : Sh) (a : AVal), fs[j]? = some s → (F i)[j]? = some a → ShOk s a) ∧
                ∃ cells : List Value, cells.length = fs.length ∧ (∀ j, j < fs.length → w.cell? ⟨b, off + i * fs.length + j, none⟩ = cells[j]?) ∧ ∀ (j : Nat) (a : AVal) (c : Value), (F i)[j]? = some a → cells[j]? = some c → Rd (allC w) w a c := by
              refine ⟨fun i => if hi : i < len then Classical.choose (each i hi).choose_spec.2 else [], fun i hi => ?_⟩
              obtain ⟨h1, h2, h3, h4⟩ := Classical.choose_spec (each i hi).choose_spec.2
              have hc := (each i hi).choose_spec.1
              obtain ⟨h5, h6⟩ := cells?_get hc
              simp only [dif_pos hi]
              refine ⟨by omega, h3, (each i hi).choose, by omega, fun j hj => ?_, h4⟩
              rw [← h6 j (by omega)]
              rw [WideShapes.add_plain, WideShapes.add_plain, hlen]
            obtain ⟨F, hF⟩ := hch
            have hget : ∀ (i : Nat) (e' : List AVal), ((List.range len).map F)[i]? = some e' → i < len ∧ e' = F i := by
              intro i e' he
              by_cases hi : i < len
              · simp [hi] at he; exact ⟨hi, he.symm⟩
              · simp [hi] at he
            refine .one (a := .list false fs.length ((List.range len).map F)) (.list _ _ (by simp; omega) (fun e' he' => ?_) fun e' i f d he' hf hd => ?_) ?_
            · obtain ⟨i, hi, rfl⟩ := List.mem_map.1 he'
              exact (hF i (by simpa using hi)).1
            · obtain ⟨i', hi', rfl⟩ := List.mem_map.1 he'
              exact (hF i' (by simpa using hi')).2.1 i f d hf hd
            · have hcellv : ∀ i j, i < len → j < fs.length → ∃ v, w.cell? ⟨b, off + i * fs.length + j, none⟩ = some v := by
                intro i j hi hj
                obtain ⟨_, _, cells, h1, h2, _⟩ := hF i hi
                exact ⟨cells[j], by rw [h2 j hj, List.getElem?_eq_getElem (by omega)]⟩
              have := Rd.list (C := allC w) (w := w) false fs.length ((List.range len).map F) b off cap (fun i j => (w.cell? ⟨b, off + i * fs.length + j, none⟩).getD .nilIface) (by simp) (by simpa using hl)
                (fun e' he' => by obtain ⟨i, hi, rfl⟩ := List.mem_map.1 he'; exact (hF i (by simpa using hi)).1) ?_ ?_ ?_ ?_
              · simpa using this
              · obtain ⟨v, hv⟩ := hcellv (len - 1) (fs.length - 1) (by omega) (by omega)
                have h1 := allC_cell hv
                simp only [List.length_map, List.length_range]
                have h2 : len * fs.length = (len - 1) * fs.length + fs.length := by
                  rw [← Nat.succ_mul]; congr 1; omega
                omega
              · intro i j hi hj
                obtain ⟨v, hv⟩ := hcellv i j (by simpa using hi) hj
                rw [hv]; rfl
              · intro i j e' d he hd
                obtain ⟨hi, rfl⟩ := hget i e' he
                have hj : j < fs.length := by rw [← (hF i hi).1]; exact (List.getElem?_eq_some_iff.1 hd).1
                exact ((hF i hi).2.1 j _ d (List.getElem?_eq_getElem hj) hd).isCell
              · intro i j e' d he hd
                obtain ⟨hi, rfl⟩ := hget i e' he
                have hj : j < fs.length := by rw [← (hF i hi).1]; exact (List.getElem?_eq_some_iff.1 hd).1
                obtain ⟨_, _, cells, h1, h2, h3⟩ := hF i hi
                refine h3 j d _ hd ?_
                rw [← h2 j hj]
                obtain ⟨v, hv⟩ := hcellv i j hi hj
                rw [hv]; rfl
    · rename_i fs hu
      split at h
      case h_2 => cases h
      rename_i l' hl'
      split at h
      case isFalse => cases h
      rename_i hll
      cases h
      obtain ⟨xs, m, rfl, _, hlen, hxs, hf⟩ := DataW.trod_struct hu ht
      have := open_fields (P := P) (w := w) (sh := shapeOf P n) (fun f cs => ∃ y, DataW.trod enc P w 0 spare held m f.type cs = some y) (fun f cs l' ⟨y, hy⟩ hl => open_shape n m f.type cs y l' hl hy) cs fs.toList 0 _ hl' ?_ ?_
      · simpa using this
      · intro f hfm
        obtain ⟨i, hi, he⟩ := List.getElem_of_mem hfm
        have h1 := hf i f (by rw [← he]; simp)
        exact ⟨xs[i]'(by simp at hi; omega), by rw [h1]; exact List.getElem?_eq_getElem _⟩
      · omega
    · cases h

end
end Go.AW

namespace Go.AW
variable [Draws]
open Go.RowKit Go.ChangeShapes
def paramSh (P : Program) (n : Nat) (t : TypeId) : Option (Bool × List Sh) :=
  match P.underlying t with
  | some (.struct _) => (shapeOf P n t).map fun l => (true, l)
  | some (.array _ _) => none
  | _ => match shapeOf P n t with
    | some [s] => some (false, [s])
    | _ => none

def ArgOk : Bool × List Sh → AVal → Prop
  | (true, l), a => ∃ asv, a = .agg asv ∧ asv.length = l.length ∧ ∀ (i : Nat) (s : Sh) (c : AVal), l[i]? = some s → asv[i]? = some c → ShOk s c
  | (false, l), a => ∃ s, l = [s] ∧ ShOk s a

def ArgsOk : List (Bool × List Sh) → List AVal → Prop
  | [], [] => True
  | p :: ps, a :: asv => ArgOk p a ∧ ArgsOk ps asv
  | _, _ => False

def paramShs (P : Program) (n : Nat) : List TypeId → Option (List (Bool × List Sh))
  | [] => some []
  | t :: ts => match paramSh P n t, paramShs P n ts with
    | some p, some ps => some (p :: ps)
    | _, _ => none

section
variable {H : Type} {enc : TypeId × Value → H} {P : Program} {w : World} {τ : Nat → Option Loc}
theorem open_arg {n : Nat} {t : TypeId} {v : Value} {d : DataW H} {ps : List MemPlace} {p : Bool × List Sh} {base : Nat} (hp : paramSh P n t = some p) (hv : Value.okWide P w .any base t v)
    (h : DataW.Trod enc P w 0 (fun _ => true) true t v d ps) : ∃ a, ArgOk p a ∧ Rel (allC w) w τ [] a v := by
  obtain ⟨fuel, hf⟩ := h
  unfold paramSh at hp
  split at hp
  · rename_i fs hu
    simp only [Option.map_eq_some_iff] at hp
    obtain ⟨l, hl, rfl⟩ := hp
    obtain ⟨asv, h1, h2, h3, h4⟩ := open_shape n fuel t _ _ l hl hf
    unfold Value.okWide at hv
    rw [hu] at hv
    obtain ⟨cs, rfl, _⟩ := hv
    simp only [Value.cells] at h1 h2 h4
    exact ⟨.agg asv, ⟨asv, rfl, by omega, h3⟩, .agg asv cs (by simpa using h1) fun i c v hc hv => .rd (h4 i c v hc (by simpa using hv))⟩
  · cases hp
  · rename_i hns hna
    split at hp
    case h_2 => cases hp
    rename_i s hl
    cases hp
    obtain ⟨asv, h1, h2, h3, h4⟩ := open_shape n fuel t _ _ _ hl hf
    have hvc : v.cells.toList = [v] := by
      have : ∀ cs, v ≠ .agg cs := by
        rintro cs rfl
        unfold Value.okWide at hv
        split at hv
        · rename_i fs hu; exact hns fs hu
        · rename_i k e hu; exact hna k e hu
        · unfold Cell.okWide at hv
          split at hv <;> simp_all [Cell.ok]
      cases v <;> first | rfl | exact absurd rfl (this _)
    rw [hvc] at h1 h2 h4
    obtain ⟨a, rfl⟩ := List.length_eq_one_iff.1 h1
    exact ⟨a, ⟨s, rfl, h3 0 s a rfl rfl⟩, .rd (h4 0 a v rfl rfl)⟩

theorem open_args {n : Nat} {base : Nat} : ∀ (ts : List TypeId) (vs : List Value) (ds : List (DataW H)) (ps : List MemPlace) (shs : List (Bool × List Sh)), paramShs P n ts = some shs →
    (∀ (j : Nat) (t : TypeId) (v : Value), ts[j]? = some t → vs[j]? = some v → Value.okWide P w .any base t v) →
    DataW.TrodAll enc P w 0 (fun _ => true) true ts vs ds ps → ∃ asv, ArgsOk shs asv ∧ asv.length = vs.length ∧ ∀ (i : Nat) (a : AVal) (v : Value), asv[i]? = some a → vs[i]? = some v → Rel (allC w) w τ [] a v
  | [], vs, ds, ps, shs, hs, hv, h => by
    obtain ⟨rfl, rfl, rfl⟩ := trodAll_nil h
    simp only [paramShs, Option.some.injEq] at hs; subst hs
    exact ⟨[], trivial, rfl, fun i a v h => by simp at h⟩
  | t :: ts, vs, ds, ps, shs, hs, hv, h => by
    obtain ⟨v, vs', d, ds', p, q, rfl, rfl, rfl, h1, h2⟩ := trodAll_cons h
    simp only [paramShs] at hs
    split at hs
    case h_2 => cases hs
    rename_i sh shs' e1 e2
    cases hs
    obtain ⟨a, ha, hr⟩ := open_arg (τ := τ) e1 (hv 0 t v rfl rfl) h1
    obtain ⟨asv, has, hl, hrs⟩ := open_args ts vs' ds' q shs' e2 (fun j t' v' ht hv' => hv (j + 1) t' v' (by simpa using ht) (by simpa using hv')) h2
    refine ⟨a :: asv, ⟨ha, has⟩, by simp [hl], fun i a' v' h1 h2 => ?_⟩
    cases i with
    | zero => simp at h1 h2; subst h1 h2; exact hr
    | succ i => exact hrs i a' v' (by simpa using h1) (by simpa using h2)

theorem trodAll_below (hl : laidOutB P = true) {W W' : World} (hb : Below W.heap.size W W') : ∀ (ts : List TypeId) (vs : List Value) (ds : List (DataW H)) (ps : List MemPlace),
    (∀ t ∈ ts, P.readableRec t = true ∧ t < P.types.size) → DataW.TrodAll enc P W 0 (fun _ => true) true ts vs ds ps →
    DataW.TrodAll enc P W' 0 (fun b => decide (b < W.heap.size)) true ts vs ds ps
  | [], vs, ds, ps, _, h => by obtain ⟨rfl, rfl, rfl⟩ := trodAll_nil h; exact trodAll_mk0
  | t :: ts, vs, ds, ps, hr, h => by
    obtain ⟨v, vs', d, ds', p, q, rfl, rfl, rfl, h1, h2⟩ := trodAll_cons h
    have hlt : ∀ x ∈ p, x.block < W.heap.size := by obtain ⟨m, hm⟩ := h1; exact DataW.trod_lt m _ _ _ hm
    exact trodAll_cons_mk (Below.trod hl (hr t (by simp)).1 (hr t (by simp)).2 h1 hb hlt) (trodAll_below hl hb ts vs' ds' q (fun t' ht => hr t' (by simp [ht])) h2)

theorem calls_of_law {f : FuncId} {fn : Func} {c : Code} {args : Array Value} {asv : List AVal} (hfn : P.funcs[f]? = some fn) (hname : (fn.name == "runtime.NumGoroutine") = false) (hbody : fn.body = some c)
    (hlen : asv.length = args.size) (hrel : ∀ (i : Nat) (a : AVal) (v : Value), asv[i]? = some a → args[i]? = some v → Rel (allC w) w (fun _ => none) [] a v)
    (hlaw : ACalls P f asv [] (fun r _ => r = .bool true)) :
    Calls P f args w fun e w' => e = .returned (.bool true) ∧ Below w.heap.size w w' := by
  have hwf : WF (allC w) (fun _ => none) [] w := by
    refine ⟨fun id o h => by simp at h, fun id o h => by simp at h, fun id o l h => by simp at h, fun id l h => by simp at h, fun i j li lj h => by simp at h, fun b hb => ?_⟩
    unfold allC at hb
    split at hb
    · rename_i h
      exact lt_of_heap h
    · omega
  have h := hlaw (allC w) (fun _ => none) w args hwf hlen hrel
  have hcall : (callFunc f args).run P w = .ok (.enter f args) w := by
    simp only [callFunc, Sem.run_bind, run_program, Result.andThen_ok, hfn, hname, Bool.false_eq_true, if_false, hbody, Option.isNone_some, Sem.run_pure]
  unfold CallsX at h
  rw [hcall] at h
  refine Calls.mono h fun e w' => ?_
  rintro ⟨v, r, C', τ', H', rfl, rfl, hr, hst, hstep⟩
  refine ⟨?_, hst.fr.os, hst.fr.tape, hst.fr.output, hst.fr.size, fun k hk => hst.fr.prot k ⟨hk, ?_⟩⟩
  · cases hr with
    | rd hr => cases hr; rfl
  · rintro ⟨id, l, h1, _⟩
    exact absurd h1 (Nat.not_lt_zero _)

set_option maxRecDepth 100000 in

theorem lifted_of_law {C : Checked} {os : Os} {f : FuncId} {fn : Func} {s : ChangeSpec} {ob : List Nat} {af : AFunc} {n tb : Nat} {shs : List (Bool × List Sh)}
    (own : ownKnob C.prog.godebug = none) (started : os.Started) (noInit : C.prog.inits.idxOf? f = none) (hfn : C.prog.funcs[f]? = some fn)
    (witness : ∃ (w : World) (tape : Tape) (i : Input), w.os = os ∧ (w.forCall tape i).Shaped C.prog ∧ i.vars = [] ∧ Input.okWide C.prog (w.forCall tape i) .any w.heap.size f i ∧
      s.pre6 enc C.prog fn [] false (w.forCall tape i).memory i.args ∧ ({} : Assume).holds C.prog (lone (Frame.enter C.prog f i.args .normal) [] (w.forCall tape i)))
    (laid : laidOutB C.prog = true) (hread : (fn.params.toList.all fun t => C.prog.readableRec t && decide (t < C.prog.types.size)) = true)
    (hs : ∀ (ds : List (DataW H)), ds.length = fn.params.size → s.fn H ds = { results := [.lit (.bool true)], args := ds }) (hvars : s.vars = [])
    (hres : fn.resultTypes = #[tb]) (htb : C.prog.underlying tb = some .bool) (hsh : paramShs C.prog n fn.params.toList = some shs) (hhas : Has C.prog f ob af)
    (hlaw : ∀ asv, ArgsOk shs asv → ACalls C.prog f asv [] (fun r _ => r = .bool true)) :
    ReturnsInHanded {} C os f .any (s.pre6 enc C.prog fn [] false) (s.post enc C.prog fn false true false false) := by
  refine returnsInHanded_of_change (C := C) own started noInit hfn witness ?_
  intro W base args ds gs before hval hW _ _
  have hW' := hW
  obtain ⟨p, q, hA, hV, rfl, _, _⟩ := hW
  rw [hvars] at hV
  obtain ⟨rfl, rfl⟩ := trodVars_none hV
  obtain ⟨asv, has, hlen, hrel⟩ := open_args (τ := fun _ => none) (n := n) fn.params.toList args.toList ds p shs hsh (fun j t v h1 h2 => hval j t v (by simpa using h1) (by simpa using h2)) hA
  obtain ⟨fn', c, hfn', hname, hbody, _⟩ := hhas
  have e : fn' = fn := Option.some.inj (hfn'.symm.trans hfn)
  subst e
  have hlds : ds.length = fn'.params.size := by
    have : ∀ (ts : List TypeId) (vs : List Value) (ds : List (DataW H)) (ps : List MemPlace), DataW.TrodAll enc C.prog W 0 (fun _ => true) true ts vs ds ps → ds.length = ts.length := by
      intro ts
      induction ts with
      | nil => intro vs ds ps h; obtain ⟨_, rfl, _⟩ := trodAll_nil h; rfl
      | cons t ts ih =>
        intro vs ds ps h
        obtain ⟨_, _, _, _, _, _, _, rfl, _, _, h2⟩ := trodAll_cons h
        simp [ih _ _ _ h2]
    simpa using this _ _ _ _ hA
  refine (calls_of_law hfn hname hbody (by simpa using hlen) (fun i a v h1 h2 => hrel i a v h1 (by simpa using h2)) (hlaw asv has)).mono fun e W' ⟨he, bel⟩ => ?_
  subst he
  refine ⟨_, rfl, ds, [], _, [], p, [], hW', ?_, ?_, ?_, bel.frame _, fun h => by cases h⟩
  · rw [List.append_nil, hs ds hlds, hres]
    exact trodAll_mk1 (shut_bool htb _)
  · rw [List.append_nil, hs ds hlds]
    refine trodAll_below laid bel _ _ _ _ (fun t ht => ?_) hA
    have := List.all_eq_true.1 hread t ht
    simpa using this
  · rw [List.append_nil, hs ds hlds, hvars]
    rfl

end
theorem argsOk_cons {p : Bool × List Sh} {ps : List (Bool × List Sh)} {asv : List AVal} (h : ArgsOk (p :: ps) asv) : ∃ a as', asv = a :: as' ∧ ArgOk p a ∧ ArgsOk ps as' := by
  cases asv with
  | nil => exact h.elim
  | cons a asv => exact ⟨a, asv, rfl, h.1, h.2⟩

theorem argsOk_nil {asv : List AVal} (h : ArgsOk [] asv) : asv = [] := by
  cases asv with
  | nil => rfl
  | cons a asv => exact h.elim

theorem argOk_int {k : IntKind} {a : AVal} (h : ArgOk (false, [.int k]) a) : ∃ n, a = .int k n ∧ (Lit.int k n).wf = true := by
  obtain ⟨s, h1, h2⟩ := h
  cases h1
  cases h2 with
  | int _ n h => exact ⟨n, rfl, h⟩

def CellsOk : List Sh → List AVal → Prop
  | [], [] => True
  | s :: ss, a :: asv => ShOk s a ∧ CellsOk ss asv
  | _, _ => False

theorem cellsOk_of : ∀ (l : List Sh) (asv : List AVal), asv.length = l.length → (∀ (i : Nat) (s : Sh) (c : AVal), l[i]? = some s → asv[i]? = some c → ShOk s c) → CellsOk l asv
  | [], [], _, _ => trivial
  | s :: l, a :: asv, hl, h => ⟨h 0 s a rfl rfl, cellsOk_of l asv (by simpa using hl) fun i s c h1 h2 => h (i + 1) s c (by simpa using h1) (by simpa using h2)⟩
  | [], _ :: _, hl, _ => by simp at hl
  | _ :: _, [], hl, _ => by simp at hl

theorem shOk_slice {fs : List Sh} {a : AVal} (h : ShOk (.slice fs) a) : ∃ es, a = .list false fs.length es ∧ es.length ≤ maxLen ∧ ∀ e ∈ es, CellsOk fs e := by
  cases h with
  | list _ es hb hl h => exact ⟨es, rfl, hb, fun e he => cellsOk_of _ _ (hl e he) fun i s c h1 h2 => h e i s c he h1 h2⟩

theorem argOk_slice {fs : List Sh} {a : AVal} (h : ArgOk (false, [.slice fs]) a) : ∃ es, a = .list false fs.length es ∧ es.length ≤ maxLen ∧ ∀ e ∈ es, CellsOk fs e := by
  obtain ⟨s, h1, h2⟩ := h
  cases h1
  exact shOk_slice h2

theorem list_image {α β : Type} {g : α → β} {W : α → Prop} : ∀ (l : List β), (∀ x ∈ l, ∃ a, x = g a ∧ W a) → ∃ m : List α, l = m.map g ∧ ∀ a ∈ m, W a
  | [], _ => ⟨[], rfl, by simp⟩
  | x :: l, h => by
    obtain ⟨a, rfl, ha⟩ := h x (by simp)
    obtain ⟨m, rfl, hm⟩ := list_image l fun y hy => h y (by simp [hy])
    exact ⟨a :: m, rfl, fun b hb => by rcases List.mem_cons.1 hb with rfl | hb; exact ha; exact hm b hb⟩

theorem cellsOk_int {k : IntKind} {e : List AVal} (h : CellsOk [.int k] e) : ∃ n, e = [.int k n] ∧ (Lit.int k n).wf = true := by
  match e, h with
  | [a], h =>
    obtain ⟨h1, _⟩ := h
    cases h1
    rename_i n hn
    exact ⟨n, rfl, hn⟩

theorem argOk_ints {k : IntKind} {a : AVal} (h : ArgOk (false, [.slice [.int k]]) a) : ∃ l : List Int, a = .list false 1 (l.map fun n => [.int k n]) ∧ l.length ≤ maxLen ∧ ∀ n ∈ l, (Lit.int k n).wf = true := by
  obtain ⟨es, rfl, hl, h⟩ := argOk_slice h
  obtain ⟨m, rfl, hm⟩ := list_image (g := fun n => [AVal.int k n]) (W := fun n => (Lit.int k n).wf = true) es fun e he => cellsOk_int (h e he)
  exact ⟨m, rfl, by simpa using hl, hm⟩

end Go.AW

namespace Go.AW
variable [Draws]
attribute [local irreducible] ACalls
structure V where
  kind : Int
  num : Int
  str : ByteArray

def valC (v : V) : List AVal := [.int .i64 v.kind, .int .i64 v.num, .str v.str]

def validB (v : V) : Bool :=
  if v.kind = 0 then v.num == 0 && v.str.data.toList == []
  else if v.kind = 1 then (v.num == 0 || v.num == 1) && v.str.data.toList == []
  else if v.kind = 2 then decide (-1073741824 ≤ v.num) && decide (v.num ≤ 1073741824) && v.str.data.toList == []
  else if v.kind = 3 then v.num == 0 && decide (v.str.size ≤ 64)
  else if v.kind = 4 then decide (0 ≤ v.num) && decide (v.num ≤ 575999999) && v.str.data.toList == []
  else false

def cmpI (a b : Int) : Int := if a < b then -1 else if b < a then 1 else 0

def cmpS (a b : List UInt8) : Int := if Op.bytesLess a b then -1 else if a = b then 0 else 1

def orI : List Int → Int
  | [] => 0
  | x :: xs => if x = 0 then orI xs else x

def valCmp (a b : V) : Int := orI [cmpI a.kind b.kind, cmpI a.num b.num, cmpS a.str.data.toList b.str.data.toList]

end Go.AW

namespace Go.AW
variable [Draws]
attribute [local irreducible] ACalls
def bC (l : List Int) : List (List AVal) := l.map fun n => [.int .u8 n]

def u8 (n : Int) : Int := IntKind.u8.wrap n

def w4 (n : Int) : List Int := [u8 (n.fdiv (2 ^ 24)), u8 (n.fdiv (2 ^ 16)), u8 (n.fdiv (2 ^ 8)), u8 n]

theorem bC_append (a b : List Int) : bC (a ++ b) = bC a ++ bC b := List.map_append

theorem bC_length (l : List Int) : (bC l).length = l.length := List.length_map ..

theorem roomB_le {n : Nat} (h : n ≤ 1000000000) : n ≤ roomB := Nat.le_trans h (by show _ ≤ 1099511627776; omega)

theorem roomB_le1 {n : Nat} (h : n ≤ 1000000000) : n * 1 ≤ roomB := roomB_le (by omega)

def bytesI (s : ByteArray) : List Int := s.data.toList.map fun b => (b.toNat : Int)

def encV (v : V) : List Int :=
  u8 v.kind :: (if v.kind = 1 then [u8 v.num] else if v.kind = 2 then w4 (IntKind.i64.wrap (v.num + 1073741824)) else if v.kind = 4 then w4 v.num else if v.kind = 3 then u8 v.str.size :: bytesI v.str else [])

def encB (rs : List V) : List Int := u8 rs.length :: rs.flatMap encV

theorem pureEs_bC (l : List Int) : pureEs (bC l) = true := by simp [pureEs, bC, AVal.isPure]

theorem pub_int {H1 : List AObj} {n : Nat} {ids : List Nat} {k : IntKind} {a b : Int} (h : a = b) : Pub H1 n ids (.int k a) (.int k b) := by subst h; exact .closed _ rfl

theorem pub2 {H1 : List AObj} {n : Nat} {ids : List Nat} {a b r s : AVal} (h1 : Pub H1 n ids a r) (h2 : Pub H1 n ids b s) : Pub H1 n ids (.tuple [a, b]) (.tuple [r, s]) := by
  refine .tuple _ _ rfl fun i v t h3 h4 => ?_
  rcases i with _ | _ | i
  · cases h3; cases h4; exact h1
  · cases h3; cases h4; exact h2
  · simp at h3

theorem pubF {H1 : List AObj} {n : Nat} {id ep len sz : Nat} {es : List (List AVal)} (ho : H1[id]? = some (.arr sz es)) (he : ep = es.length) (hl : len = es.length) (hp : pureEs es = true) : Pub H1 n [] (.sl id ep 0 len) (.list false sz es) := by
  subst hl he
  have := Pub.frz (n := n) (ids := []) id es.length 0 es.length sz es ho rfl hp (by simp)
  rwa [List.drop_zero, List.take_length] at this

end Go.AW

namespace Go.AW
variable [Draws]
attribute [local irreducible] ACalls
def iC (l : List Int) : List (List AVal) := l.map fun n => [.int .i64 n]

def w64 (n : Int) : Int := IntKind.i64.wrap n

end Go.AW

namespace Go.AW
variable [Draws]
attribute [local irreducible] ACalls
def vC (rs : List V) : List (List AVal) := rs.map valC

theorem get_drop {α : Type} {l : List α} {k : Nat} (h : k < l.length) : ∃ x, l[k]? = some x ∧ l.drop k = x :: l.drop (k + 1) ∧ x ∈ l :=
  ⟨l[k], List.getElem?_eq_getElem h, List.drop_eq_getElem_cons h, List.getElem_mem h⟩

def rowsCmp : List V → List V → Int
  | [], [] => 0
  | [], _ :: _ => -1
  | _ :: _, [] => 1
  | x :: xs, y :: ys => if valCmp x y = 0 then rowsCmp xs ys else valCmp x y

end Go.AW

namespace Go.AW
variable [Draws]
attribute [local irreducible] ACalls
def or64 (a b : Int) : Int := IntKind.i64.wrap (BitVec.ofInt IntKind.i64.bits a ||| BitVec.ofInt IntKind.i64.bits b).toNat

theorem or64_add (m y : Int) (k : Nat) (hm : 0 ≤ m) (hy : 0 ≤ y) (hyk : y < 2 ^ k) (hb : m * 2 ^ k + y < 2 ^ 62) : or64 (m * 2 ^ k) y = m * 2 ^ k + y := by
  obtain ⟨m, rfl⟩ := Int.eq_ofNat_of_zero_le hm
  obtain ⟨y, rfl⟩ := Int.eq_ofNat_of_zero_le hy
  have hyk' : y < 2 ^ k := by exact_mod_cast hyk
  have hb' : m * 2 ^ k + y < 2 ^ 62 := by exact_mod_cast hb
  show IntKind.i64.wrap ((BitVec.ofInt 64 ((m : Int) * 2 ^ k) ||| BitVec.ofInt 64 (y : Int)).toNat : Int) = _
  have e1 : ((m : Int) * 2 ^ k) = ((m * 2 ^ k : Nat) : Int) := by simp
  rw [e1, BitVec.ofInt_natCast, BitVec.ofInt_natCast, BitVec.toNat_or, BitVec.toNat_ofNat, BitVec.toNat_ofNat, Nat.mod_eq_of_lt (by omega), Nat.mod_eq_of_lt (by omega)]
  have h := Nat.shiftLeft_add_eq_or_of_lt hyk' m
  rw [Nat.shiftLeft_eq] at h
  rw [← h, wrapI _ (by omega) (by omega)]
  simp

def Byt (l : List Int) : Prop := ∀ x ∈ l, 0 ≤ x ∧ x ≤ 255

def num (l : List Int) : Int := l.foldl (fun n x => n * 256 + x) 0

def strOf (l : List Int) : ByteArray := ⟨(l.map fun n => UInt8.ofNat n.toNat).toArray⟩

theorem bytesOf_bC : ∀ (l : List Int), bytesOf (bC l) = some (l.map fun n => UInt8.ofNat n.toNat)
  | [] => rfl
  | x :: l => by
    show (bytesOf (bC l)).map (UInt8.ofNat x.toNat :: ·) = _
    rw [bytesOf_bC l]; rfl

theorem bC_take (l : List Int) (k : Nat) : (bC l).take k = bC (l.take k) := by simp [bC, List.map_take]

def decW (l : List Int) (k n : Int) : V × Int :=
  if l.length = 0 then (⟨0, 0, bs []⟩, 0)
  else if k = 0 then (⟨0, 0, bs []⟩, 1)
  else if k = 1 ∧ 2 ≤ l.length then (⟨1, n, bs []⟩, 2)
  else if k = 2 ∧ 5 ≤ l.length then (⟨2, num ((l.take 5).drop 1) - 1073741824, bs []⟩, 5)
  else if k = 4 ∧ 5 ≤ l.length then (⟨4, num ((l.take 5).drop 1), bs []⟩, 5)
  else if k = 3 ∧ 2 ≤ l.length ∧ 2 + n ≤ l.length then (⟨3, 0, strOf ((l.take (2 + n).toNat).drop 2)⟩, 2 + n)
  else (⟨0, 0, bs []⟩, 0)

def decV (l : List Int) : V × Int := decW l (l.getD 0 0) (l.getD 1 0)

theorem Byt.sub {l m : List Int} (h : Byt l) (hm : ∀ x ∈ m, x ∈ l) : Byt m := fun x hx => h x (hm x hx)

theorem Byt.drop {l : List Int} (h : Byt l) (k : Nat) : Byt (l.drop k) := h.sub fun _ hx => List.mem_of_mem_drop hx

theorem Byt.take {l : List Int} (h : Byt l) (k : Nat) : Byt (l.take k) := h.sub fun _ hx => List.mem_of_mem_take hx

def decN : Nat → List Int → Option (List V × List Int)
  | 0, l => some ([], l)
  | n + 1, l => if (decV l).2 = 0 ∨ validB (decV l).1 = false then none else match decN n (l.drop (decV l).2.toNat) with
    | some (rs, r) => some ((decV l).1 :: rs, r)
    | none => none

end Go.AW

namespace Go.AW
variable [Draws]
attribute [local irreducible] ACalls
theorem bl_irrefl : ∀ (a : List UInt8), Op.bytesLess a a = false
  | [] => rfl
  | x :: a => by simp [Op.bytesLess, bl_irrefl a]

theorem bl_tri : ∀ (a b : List UInt8), Op.bytesLess a b = true ∨ a = b ∨ Op.bytesLess b a = true
  | [], [] => .inr (.inl rfl)
  | [], _ :: _ => .inl rfl
  | _ :: _, [] => .inr (.inr rfl)
  | x :: a, y :: b => by
    simp only [Op.bytesLess, Bool.or_eq_true, decide_eq_true_eq, Bool.and_eq_true, beq_iff_eq, List.cons.injEq]
    rcases (show x < y ∨ x = y ∨ y < x from by rcases Nat.lt_trichotomy x.toNat y.toNat with h | h | h; exact .inl h; exact .inr (.inl (UInt8.toNat_inj.1 h)); exact .inr (.inr h)) with h | h | h
    · exact .inl (.inl h)
    · subst h
      rcases bl_tri a b with h | h | h
      · exact .inl (.inr ⟨rfl, h⟩)
      · exact .inr (.inl ⟨rfl, h⟩)
      · exact .inr (.inr (.inr ⟨rfl, h⟩))
    · exact .inr (.inr (.inl h))

theorem bl_trans : ∀ (a b c : List UInt8), Op.bytesLess a b = true → Op.bytesLess b c = true → Op.bytesLess a c = true
  | _, [], _, h, _ => by cases ‹List UInt8› <;> simp [Op.bytesLess] at h
  | _, _ :: _, [], _, h => by simp [Op.bytesLess] at h
  | [], _ :: _, _ :: _, _, _ => rfl
  | x :: a, y :: b, z :: c, h1, h2 => by
    simp only [Op.bytesLess, Bool.or_eq_true, decide_eq_true_eq, Bool.and_eq_true, beq_iff_eq] at *
    rcases h1 with h1 | ⟨rfl, h1⟩
    · rcases h2 with h2 | ⟨rfl, h2⟩
      · exact .inl (UInt8.lt_trans h1 h2)
      · exact .inl h1
    · rcases h2 with h2 | ⟨rfl, h2⟩
      · exact .inl h2
      · exact .inr ⟨rfl, bl_trans a b c h1 h2⟩

structure IsCmp {α : Type} (c : α → α → Int) : Prop where
  vals : ∀ a b, c a b = -1 ∨ c a b = 0 ∨ c a b = 1
  anti : ∀ a b, c b a = - c a b
  zero : ∀ a b, c a b = 0 ↔ a = b
  trans : ∀ a b d, c a b < 0 → c b d < 0 → c a d < 0

theorem IsCmp.ltle {α : Type} {c : α → α → Int} (h : IsCmp c) {a b d : α} (h1 : c a b < 0) (h2 : c b d ≤ 0) : c a d < 0 := by
  by_cases e : c b d = 0
  · rw [← (h.zero b d).1 e]; exact h1
  · exact h.trans a b d h1 (by omega)

theorem IsCmp.le {α : Type} {c : α → α → Int} (h : IsCmp c) {a b d : α} (h1 : c a b ≤ 0) (h2 : c b d ≤ 0) : c a d ≤ 0 := by
  by_cases e : c a b = 0
  · rw [(h.zero a b).1 e]; exact h2
  · have := h.ltle (a := a) (by omega) h2; omega

theorem isCmp_int : IsCmp cmpI := by
  refine ⟨fun a b => ?_, fun a b => ?_, fun a b => ?_, fun a b d => ?_⟩ <;> unfold cmpI <;> (repeat' split) <;> omega

theorem isCmp_str : IsCmp cmpS := by
  have asym : ∀ a b, Op.bytesLess a b = true → Op.bytesLess b a = true → False := fun a b h1 h2 => by
    have := bl_trans a b a h1 h2
    rw [bl_irrefl] at this; cases this
  refine ⟨fun a b => ?_, fun a b => ?_, fun a b => ?_, fun a b d => ?_⟩
  · unfold cmpS; split
    · simp
    · split <;> simp
  · unfold cmpS
    rcases bl_tri a b with h | h | h
    · have hb : Op.bytesLess b a = false := by cases hb : Op.bytesLess b a with | false => rfl | true => exact (asym a b h hb).elim
      have hne : ¬ b = a := by rintro rfl; rw [bl_irrefl] at h; cases h
      simp [h, hb, hne]
    · subst h; simp [bl_irrefl]
    · have hb : Op.bytesLess a b = false := by cases hb : Op.bytesLess a b with | false => rfl | true => exact (asym a b hb h).elim
      have hne : ¬ a = b := by rintro rfl; rw [bl_irrefl] at h; cases h
      simp [h, hb, hne]
  · unfold cmpS
    split
    · rename_i h
      refine ⟨fun h => by omega, ?_⟩
      rintro rfl
      rw [bl_irrefl] at h; cases h
    · split <;> simp [*]
  · unfold cmpS
    intro h1 h2
    have e1 : Op.bytesLess a b = true := by
      revert h1
      split
      · intro _; assumption
      · split <;> intro h <;> omega
    have e2 : Op.bytesLess b d = true := by
      revert h2
      split
      · intro _; assumption
      · split <;> intro h <;> omega
    rw [if_pos (bl_trans a b d e1 e2)]; omega

theorem isCmp_val : IsCmp valCmp := by
  have I := isCmp_int
  have S := isCmp_str
  refine ⟨fun a b => ?_, fun a b => ?_, fun a b => ?_, fun a b d => ?_⟩
  · have := I.vals a.kind b.kind; have := I.vals a.num b.num; have := S.vals a.str.data.toList b.str.data.toList
    simp only [valCmp, orI]; (repeat' split) <;> omega
  · have := I.anti a.kind b.kind; have := I.anti a.num b.num; have := S.anti a.str.data.toList b.str.data.toList
    simp only [valCmp, orI]; (repeat' split) <;> omega
  · have h1 := I.zero a.kind b.kind; have h2 := I.zero a.num b.num; have h3 := S.zero a.str.data.toList b.str.data.toList
    constructor
    · intro h
      simp only [valCmp, orI] at h
      have e1 : cmpI a.kind b.kind = 0 := by revert h; (repeat' split) <;> omega
      have e2 : cmpI a.num b.num = 0 := by revert h; (repeat' split) <;> omega
      have e3 : cmpS a.str.data.toList b.str.data.toList = 0 := by revert h; (repeat' split) <;> omega
      obtain ⟨ak, an, ⟨⟨asv⟩⟩⟩ := a
      obtain ⟨bk, bn, ⟨⟨bl⟩⟩⟩ := b
      have q1 := h1.1 e1; have q2 := h2.1 e2; have q3 := h3.1 e3
      simp only at q1 q2 q3
      subst q1 q2 q3; rfl
    · rintro rfl
      simp only [valCmp, orI]
      rw [if_pos (h1.2 rfl), if_pos (h2.2 rfl), if_pos (h3.2 rfl)]
  · intro h1 h2
    have a1 := I.trans a.kind b.kind d.kind; have a2 := I.trans a.num b.num d.num; have a3 := S.trans a.str.data.toList b.str.data.toList d.str.data.toList
    have v1 := I.vals a.kind b.kind; have v2 := I.vals b.kind d.kind; have v3 := I.vals a.num b.num; have v4 := I.vals b.num d.num
    have z1 := I.zero a.kind b.kind; have z2 := I.zero b.kind d.kind; have z3 := I.zero a.num b.num; have z4 := I.zero b.num d.num
    have z5 := I.zero a.kind d.kind; have z6 := I.zero a.num d.num
    simp only [valCmp, orI] at *
    by_cases k1 : a.kind = b.kind <;> by_cases k2 : b.kind = d.kind <;> by_cases n1 : a.num = b.num <;> by_cases n2 : b.num = d.num <;> simp_all <;> (repeat' split) <;> omega

end Go.AW

namespace Go.AW
variable [Draws]
attribute [local irreducible] ACalls
def letterB (b : UInt8) : Bool := decide (97 ≤ b.toNat ∧ b.toNat ≤ 122)

def restB (b : UInt8) : Bool := decide (97 ≤ b.toNat ∧ b.toNat ≤ 122 ∨ 48 ≤ b.toNat ∧ b.toNat ≤ 57 ∨ b.toNat = 95)

def nameL : List UInt8 → Bool
  | [] => false
  | b :: r => letterB b && r.all restB

def nameB (s : ByteArray) : Bool := decide (s.size ≤ 24) && nameL s.data.toList

end Go.AW

namespace Go.AW
variable [Draws]
attribute [local irreducible] ACalls
open Go.Lib (indexByte)
def dotAt (s : ByteArray) : Int := indexByte s.data.toList 46

def qualB (s : ByteArray) : Bool :=
  if 0 ≤ dotAt s then nameB (s.extract 0 (dotAt s).toNat) && nameB (s.extract (dotAt s + 1).toNat s.size) else nameB s

end Go.AW

namespace Go.AW
variable [Draws]
attribute [local irreducible] ACalls
structure Col where
  name : ByteArray
  kind : Int
  nul : Bool

end Go.AW

namespace Go.AW
variable [Draws]
attribute [local irreducible] ACalls
theorem ACalls.frz1 {P : Program} {f : FuncId} {args : List AVal} {n sz : Nat} {es : List (List AVal)} {H : List AObj} (ha : args.all AVal.closed = true) (h : ACalls P f args [] (fun r H1 => r = .sl 0 n 0 n ∧ H1 = [.arr sz es]))
    (hn : n = es.length) (hp : pureEs es = true) : ACalls P f args H (fun r H' => r = .list false sz es ∧ H' = H) := by
  refine ACalls.pure ha (h.mono ?_)
  rintro r H1 ⟨rfl, rfl⟩
  exact pubF rfl hn hn hp

def zV : V := ⟨0, 0, bs []⟩

end Go.AW

namespace Go.AW
variable [Draws]
attribute [local irreducible] ACalls
theorem u8_eq (n : Int) : u8 n = n % 256 := by
  show IntKind.u8.wrap n = _
  simp [IntKind.wrap, IntKind.signed, IntKind.bits]

theorem V.ext' {a b : V} (h1 : a.kind = b.kind) (h2 : a.num = b.num) (h3 : a.str = b.str) : a = b := by
  cases a; cases b; simp_all

theorem rowsCmp_zero : ∀ (a b : List V), rowsCmp a b = 0 ↔ a = b
  | [], [] => by simp [rowsCmp]
  | [], _ :: _ => by simp [rowsCmp]
  | _ :: _, [] => by simp [rowsCmp]
  | x :: a, y :: b => by
    have hz := isCmp_val.zero x y
    rw [rowsCmp]
    by_cases h : valCmp x y = 0
    · rw [if_pos h, rowsCmp_zero a b, hz.1 h]; simp
    · rw [if_neg h]
      constructor
      · intro h2; exact absurd h2 h
      · intro h2; simp at h2; exact absurd (hz.2 h2.1) h

end Go.AW

namespace Go.AW
variable [Draws]
attribute [local irreducible] ACalls
theorem lentSl {H : List AObj} {id ep len sz : Nat} {es : List (List AVal)} (ho : H[id]? = some (.arr sz es)) (he : ep = es.length) (hl : len = es.length) (hp : pureEs es = true) : Lent H (.sl id ep 0 len) (.list false sz es) := by
  subst he hl
  have := Lent.sl id es.length 0 es.length sz es ho rfl hp
  rwa [List.drop_zero, List.take_length] at this

end Go.AW

namespace Go.AW
variable [Draws]
attribute [local irreducible] ACalls
theorem Ghost.one {n : Nat} {live : List (Nat × AVal)} {ρ : List AVal} {H : List AObj} {I : List AVal → List AObj → Prop} (id : Nat) (sz : Nat) (es : List (List AVal)) (ho : H[id]? = .some (.arr sz es)) (hp : pureEs es = true) (hl : ρ.length = n) (h : SvPub H [id] ρ live) (hI : ∀ ρ1, Sv n live ρ1 → I ρ1 [.arr sz es]) : Ghost [] ρ H I :=
  ⟨Gp.one id sz es ho hp hl h hI⟩

end Go.AW

namespace Go.AW
variable [Draws]
attribute [local irreducible] ACalls
def eqS (s t : ByteArray) : Bool := s.data.toList == t.data.toList

end Go.AW

namespace Go.AW
variable [Draws]
attribute [local irreducible] ACalls
structure Ent where
  row : List V
  cnt : Int

def entC (e : Ent) : List AVal := [.list false 3 (vC e.row), .int .i64 e.cnt]

def eC (l : List Ent) : List (List AVal) := l.map entC

def fitB (e : Ent) : Int := if 12 < e.row.length ∨ e.cnt < -65536 ∨ 65536 < e.cnt then 2 else if e.row.all validB then 0 else 8

def notB : Option (List V) → List V → Bool
  | some q, r => decide (rowsCmp q r ≥ 0)
  | none, _ => false

def bvGo : List Ent → Option (List V) → Int
  | [], _ => 0
  | e :: es, p => if fitB e ≠ 0 then fitB e else if e.cnt = 0 then 8 else if notB p e.row = true then 14 else bvGo es (some e.row)

def bagB (b : List Ent) : Int := if 4096 < b.length then 2 else bvGo b none

end Go.AW

namespace Go.AW
variable [Draws]
theorem ACalls.weakR {P : Program} {f : FuncId} {args : List AVal} {H : List AObj} {Q Q' : AVal → List AObj → Prop} (h : ACalls P f args H Q) (hq : ∀ r H', Q r H' → ∃ r', Wk r r' ∧ Q' r' H') : ACalls P f args H Q' := by
  intro C τ w vs hw hl hr
  have h := h C τ w vs hw hl hr
  unfold CallsX at h ⊢
  split at h
  · exact Calls.mono h fun e w' ⟨v, r, C', τ', H', h1, h2, h3, h4⟩ => by
      obtain ⟨r', hk, hq'⟩ := hq _ _ h2
      exact ⟨v, r', C', τ', H', h1, hq', h3.weak hk, h4⟩
  · obtain ⟨v, r, C', τ', H', h1, h2, h3, h4⟩ := h
    obtain ⟨r', hk, hq'⟩ := hq _ _ h2
    exact ⟨v, r', C', τ', H', h1, hq', h3.weak hk, h4⟩
  · exact h

end Go.AW

namespace Go.AW
variable [Draws]
attribute [local irreducible] ACalls
def smallB (n : Int) : Bool := decide (-65536 ≤ n) && decide (n ≤ 65536)

def mrg : List Ent → List Ent → List Ent
  | [], b => b
  | x :: a, [] => x :: a
  | x :: a, y :: b => if rowsCmp x.row y.row < 0 then x :: mrg a (y :: b) else if 0 < rowsCmp x.row y.row then y :: mrg (x :: a) b else ⟨x.row, x.cnt + y.cnt⟩ :: mrg a b
termination_by a b => a.length + b.length

theorem mrg_nil (b : List Ent) : mrg [] b = b := by rw [mrg]

theorem mrg_nil2 (a : List Ent) : mrg a [] = a := by
  cases a with
  | nil => rw [mrg]
  | cons x a => rw [mrg]

theorem mrg_cons (x y : Ent) (a b : List Ent) : mrg (x :: a) (y :: b) = if rowsCmp x.row y.row < 0 then x :: mrg a (y :: b) else if 0 < rowsCmp x.row y.row then y :: mrg (x :: a) b else ⟨x.row, x.cnt + y.cnt⟩ :: mrg a b := by rw [mrg]

def nzB (e : Ent) : Bool := !(e.cnt == 0)

end Go.AW

namespace Go.AW
variable [Draws]
attribute [local irreducible] ACalls
theorem mrg_length : ∀ (a b : List Ent), (mrg a b).length ≤ a.length + b.length
  | [], b => by rw [mrg_nil]; omega
  | x :: a, [] => by rw [mrg_nil2]; omega
  | x :: a, y :: b => by
    rw [mrg_cons]
    have h1 := mrg_length a (y :: b)
    have h2 := mrg_length (x :: a) b
    have h3 := mrg_length a b
    split
    · simp at h1 ⊢; omega
    split
    · simp at h2 ⊢; omega
    · simp; omega
termination_by a b => a.length + b.length

end Go.AW

namespace Go.AW
variable [Draws]
attribute [local irreducible] ACalls
structure Grp where
  n : Int
  vals : List Ent

def oneB (e : Ent) : Bool := match e.row with
  | [v] => !(v.kind == 0)
  | _ => false

def rowsB (n : Int) : Bool := decide (-268435456 ≤ n) && decide (n ≤ 268435456)

def grpB (g : Grp) : Int := if rowsB g.n = false then 1 else if bagB g.vals ≠ 0 then bagB g.vals else if g.vals.all oneB then 0 else 8

end Go.AW

namespace Go.AW
variable [Draws]
section
variable {P : Program} {C : Nat → Nat} {τ : Nat → Option Loc} {H : List AObj} {w : World}
inductive WkD : AVal → AVal → Prop where
  | refl (a : AVal) : WkD a a
  | nil (x : Bool) (sz : Nat) : WkD .nil (.list x sz [])
  | list (x y : Bool) (sz : Nat) (es fs : List (List AVal)) (h : y = true → x = true) (hl : es.length = fs.length)
      (hl2 : ∀ (i : Nat) (e f : List AVal), es[i]? = some e → fs[i]? = some f → e.length = f.length)
      (hcell : ∀ (i j : Nat) (f : List AVal) (c : AVal), fs[i]? = some f → f[j]? = some c → c.isCell = true)
      (hc : ∀ (i j : Nat) (e f : List AVal) (d c : AVal), es[i]? = some e → fs[i]? = some f → e[j]? = some d → f[j]? = some c → WkD d c) : WkD (.list x sz es) (.list y sz fs)
  | agg (asv bs : List AVal) (hl : asv.length = bs.length) (h : ∀ (i : Nat) (a b : AVal), asv[i]? = some a → bs[i]? = some b → WkD a b) : WkD (.agg asv) (.agg bs)
  | tuple (asv bs : List AVal) (hl : asv.length = bs.length) (h : ∀ (i : Nat) (a b : AVal), asv[i]? = some a → bs[i]? = some b → WkD a b) : WkD (.tuple asv) (.tuple bs)

theorem Rd.weakD {a b : AVal} {v : Value} (h : Rd C w a v) (hw : WkD a b) : Rd C w b v := by
  induction hw generalizing v with
  | refl => exact h
  | nil x sz => cases h; exact .list0 x sz none 0 (fun _ => rfl)
  | list x y sz es fs hxy hl hl2 hcell hc ih =>
    have hsome : ∀ {i : Nat} {f : List AVal}, fs[i]? = some f → ∃ e, es[i]? = some e ∧ e.length = f.length := fun {i f} hf => by
      have hi : i < es.length := by have := (List.getElem?_eq_some_iff.1 hf).1; omega
      exact ⟨es[i], List.getElem?_eq_getElem hi, hl2 i _ _ (List.getElem?_eq_getElem hi) hf⟩
    cases h with
    | list0 _ _ a cap hx =>
      cases fs with
      | nil => exact .list0 y sz a cap fun hy => hx (hxy hy)
      | cons f fs => simp at hl
    | list _ _ _ b off cap vs hx hcap hsz hC hcl hp hrd =>
      rw [hl]
      refine .list y sz fs b off cap vs (fun hy => by rw [← hl]; exact hx (hxy hy)) (by omega) (fun f hf => ?_) (by rw [← hl]; exact hC) (fun i j hi hj => hcl i j (by omega) hj) hcell (fun i j f c hf hcc => ?_)
      · obtain ⟨i, hi, rfl⟩ := List.getElem_of_mem hf
        obtain ⟨e, he, hle⟩ := hsome (List.getElem?_eq_getElem hi)
        rw [← hle]; exact hsz e (List.mem_of_getElem? he)
      · obtain ⟨e, he, hle⟩ := hsome hf
        have hj : j < e.length := by have := (List.getElem?_eq_some_iff.1 hcc).1; omega
        exact ih i j e f e[j] c he hf (List.getElem?_eq_getElem hj) hcc (hrd i j e e[j] he (List.getElem?_eq_getElem hj))
  | agg => cases h
  | tuple => cases h

theorem Rel.weakD {a b : AVal} {v : Value} (h : Rel C w τ H a v) (hw : WkD a b) : Rel C w τ H b v := by
  induction hw generalizing v with
  | refl => exact h
  | nil x sz =>
    cases h with
    | rd h => exact .rd (h.weakD (.nil x sz))
  | list x y sz es fs hxy hl hl2 hcell hc ih =>
    cases h with
    | rd h => exact .rd (h.weakD (.list x y sz es fs hxy hl hl2 hcell hc))
  | agg asv bs hl h2 ih =>
    cases h with
    | rd h => cases h
    | agg _ vs hlv hv =>
      refine .agg bs vs (by omega) fun i c u hc hu => ?_
      have hi : i < asv.length := by have := (List.getElem?_eq_some_iff.1 hc).1; omega
      exact ih i asv[i] c (List.getElem?_eq_getElem hi) hc (hv i asv[i] u (List.getElem?_eq_getElem hi) hu)
  | tuple asv bs hl h2 ih =>
    cases h with
    | rd h => cases h
    | tuple _ vs hlv hv =>
      refine .tuple bs vs (by omega) fun i c u hc hu => ?_
      have hi : i < asv.length := by have := (List.getElem?_eq_some_iff.1 hc).1; omega
      exact ih i asv[i] c (List.getElem?_eq_getElem hi) hc (hv i asv[i] u (List.getElem?_eq_getElem hi) hu)

def WksD (asv bs : List AVal) : Prop := asv.length = bs.length ∧ ∀ (i : Nat) (a b : AVal), asv[i]? = some a → bs[i]? = some b → WkD a b

theorem WksD.nil : WksD [] [] := ⟨rfl, fun i a b h => by simp at h⟩

theorem WksD.cons {a b : AVal} {asv bs : List AVal} (h : WkD a b) (hs : WksD asv bs) : WksD (a :: asv) (b :: bs) := by
  refine ⟨by simp [hs.1], fun i x y hx hy => ?_⟩
  cases i with
  | zero => simp at hx hy; subst hx hy; exact h
  | succ i => exact hs.2 i x y (by simpa using hx) (by simpa using hy)

theorem WkD.aggs {asv bs : List AVal} (h : WksD asv bs) : WkD (.agg asv) (.agg bs) := .agg asv bs h.1 h.2

theorem WkD.tuples {asv bs : List AVal} (h : WksD asv bs) : WkD (.tuple asv) (.tuple bs) := .tuple asv bs h.1 h.2

theorem ACalls.weakD {f : FuncId} {args bs : List AVal} {Q : AVal → List AObj → Prop} (h : ACalls P f bs H Q) (hw : WksD args bs) : ACalls P f args H Q := by
  intro C τ w vs hwf hl hr
  refine h C τ w vs hwf (by rw [← hw.1]; exact hl) fun i b v hb hv => ?_
  have hi : i < args.length := by have := (List.getElem?_eq_some_iff.1 hb).1; have := hw.1; omega
  exact (hr i args[i] v (List.getElem?_eq_getElem hi) hv).weakD (hw.2 i args[i] b (List.getElem?_eq_getElem hi) hb)

end
end Go.AW

namespace Go.AW
variable [Draws]
attribute [local irreducible] ACalls
def sumE (a b : List Ent) : Int :=
  if bagB a ≠ 0 then bagB a else if bagB b ≠ 0 then bagB b else if ((mrg a b).all fun e => smallB e.cnt) = true ∧ ((mrg a b).filter nzB).length ≤ 4096 then 0 else 2

def sumL (a b : List Ent) : List Ent := (mrg a b).filter nzB

def mrgE (a b : Grp) : Int := if rowsB (a.n + b.n) = false then 2 else sumE a.vals b.vals

def mrgG (a b : Grp) : Grp := if mrgE a b = 0 then ⟨a.n + b.n, sumL a.vals b.vals⟩ else ⟨0, []⟩

def GrpOk (g : Grp) : Prop := -1000000000 ≤ g.n ∧ g.n ≤ 1000000000

end Go.AW

namespace Go.AW
variable [Draws]
attribute [local irreducible] ACalls
def oneG (v : V) (c : Int) : Grp := ⟨c, if v.kind ≠ 0 ∧ c ≠ 0 then [⟨[v], c⟩] else []⟩

def preE (g : Grp) (v : V) (c : Int) : Int := if grpB g ≠ 0 then grpB g else if validB v = false then 8 else if smallB c = false then 1 else 0

def addGE (g : Grp) (v : V) (c : Int) : Int := if preE g v c ≠ 0 then preE g v c else mrgE g (oneG v c)

def addGG (g : Grp) (v : V) (c : Int) : Grp := if preE g v c ≠ 0 then ⟨0, []⟩ else mrgG g (oneG v c)

theorem grpB_ok {g : Grp} (h : grpB g = 0) : GrpOk g ∧ rowsB g.n = true ∧ bagB g.vals = 0 ∧ g.vals.all oneB = true := by
  unfold grpB at h
  split at h
  · cases h
  rename_i h1
  split at h
  · rename_i h2; exact absurd h h2
  rename_i h2
  split at h
  · rename_i h3
    simp [rowsB] at h1
    exact ⟨⟨by omega, by omega⟩, by simp [rowsB, h1], by simpa using h2, h3⟩
  · cases h

end Go.AW

namespace Go.AW
variable [Draws]
attribute [local irreducible] ACalls
def numV (n : Int) : V := if n < -1073741824 ∨ 1073741824 < n then zV else ⟨2, n, bs []⟩

def num0 (e : Ent) : Int := (e.row.getD 0 zV).num

def totGo : List Ent → Int → Int → Int × Int
  | [], s, c => (s, c)
  | e :: es, s, c => totGo es (w64 (s + w64 (num0 e * e.cnt))) (w64 (c + e.cnt))

end Go.AW

namespace Go.AW
variable [Draws]
attribute [local irreducible] ACalls
def posB (e : Ent) : Bool := decide (e.cnt > 0)

def notInt (e : Ent) : Bool := !((e.row.getD 0 zV).kind == 2)

end Go.AW

namespace Go.AW
variable [Draws]
attribute [local irreducible] ACalls
def row0 (e : Ent) : V := e.row.getD 0 zV

def presV (l : List Ent) : List V := (l.filter posB).map row0

def floorV (s c : Int) : Int := if s.tmod c < 0 then w64 (w64 (s.tdiv c) - 1) else w64 (s.tdiv c)

def resE (f : Int) (g : Grp) : Int := if f < 1 ∨ 7 < f then 1 else if grpB g ≠ 0 then grpB g else if (f = 3 ∨ f = 7) ∧ g.vals.any notInt = true then 7 else 0

def resV0 (f : Int) (g : Grp) : V :=
  if f = 1 then numV g.n else if f = 2 then numV (totGo g.vals 0 0).2 else if f = 6 then numV (presV g.vals).length
  else if f = 4 then (presV g.vals).head?.getD zV else if f = 5 then (presV g.vals).getLast?.getD zV
  else if f = 3 then (if g.vals = [] then zV else numV (totGo g.vals 0 0).1)
  else if 0 < (totGo g.vals 0 0).2 then numV (floorV (totGo g.vals 0 0).1 (totGo g.vals 0 0).2) else zV

def resV (f : Int) (g : Grp) : V := if resE f g ≠ 0 then zV else resV0 f g

end Go.AW

namespace Go.AW
variable [Draws]
theorem rowsCmp_vals : ∀ (a b : List V), rowsCmp a b = -1 ∨ rowsCmp a b = 0 ∨ rowsCmp a b = 1
  | [], [] => .inr (.inl rfl)
  | [], _ :: _ => .inl rfl
  | _ :: _, [] => .inr (.inr rfl)
  | x :: xs, y :: ys => by
    rw [rowsCmp]
    split
    · exact rowsCmp_vals xs ys
    · exact isCmp_val.vals x y

theorem rowsCmp_anti : ∀ (a b : List V), rowsCmp b a = - rowsCmp a b
  | [], [] => rfl
  | [], _ :: _ => rfl
  | _ :: _, [] => rfl
  | x :: xs, y :: ys => by
    rw [rowsCmp, rowsCmp, isCmp_val.anti x y]
    by_cases h : valCmp x y = 0
    · rw [if_pos h, if_pos (by omega), rowsCmp_anti xs ys]
    · rw [if_neg h, if_neg (by omega)]

theorem rowsCmp_trans : ∀ (a b d : List V), rowsCmp a b < 0 → rowsCmp b d < 0 → rowsCmp a d < 0
  | [], _, [], _, h2 => by
    rename_i b _
    cases b with
    | nil => exact h2
    | cons y ys => rw [rowsCmp] at h2; omega
  | [], _, _ :: _, _, _ => by rw [rowsCmp]; omega
  | x :: xs, [], _, h1, _ => by rw [rowsCmp] at h1; omega
  | x :: xs, y :: ys, [], _, h2 => by rw [rowsCmp] at h2; omega
  | x :: xs, y :: ys, z :: zs, h1, h2 => by
    rw [rowsCmp] at h1 h2 ⊢
    by_cases e1 : valCmp x y = 0
    · rw [if_pos e1] at h1
      have hxy := (isCmp_val.zero x y).1 e1
      subst hxy
      by_cases e2 : valCmp x z = 0
      · rw [if_pos e2] at h2 ⊢; exact rowsCmp_trans xs ys zs h1 h2
      · rw [if_neg e2] at h2 ⊢; exact h2
    · rw [if_neg e1] at h1
      by_cases e2 : valCmp y z = 0
      · have hyz := (isCmp_val.zero y z).1 e2
        subst hyz
        rw [if_neg e1]; exact h1
      · rw [if_neg e2] at h2
        have := isCmp_val.trans x y z h1 h2
        rw [if_neg (by omega)]; exact this

def cntL : List Ent → List V → Int
  | [], _ => 0
  | e :: l, r => (if rowsCmp e.row r = 0 then e.cnt else 0) + cntL l r

def Srt (l : List Ent) : Prop := l.Pairwise fun x y => rowsCmp x.row y.row < 0

theorem cntL_zero : ∀ (l : List Ent) (r : List V), (∀ e ∈ l, rowsCmp e.row r ≠ 0) → cntL l r = 0
  | [], _, _ => rfl
  | e :: l, r, h => by rw [cntL, if_neg (h e (List.mem_cons_self ..)), cntL_zero l r fun e he => h e (List.mem_cons_of_mem _ he)]; rfl

theorem cntL_above {l : List Ent} {r : List V} (h : ∀ e ∈ l, rowsCmp r e.row < 0) : cntL l r = 0 :=
  cntL_zero l r fun e he hz => by have := h e he; rw [rowsCmp_anti] at this; omega

theorem cntL_head {x : Ent} {l : List Ent} (h : Srt (x :: l)) : cntL (x :: l) x.row = x.cnt := by
  rw [cntL, if_pos ((rowsCmp_zero _ _).2 rfl), cntL_above (List.pairwise_cons.1 h).1]; omega

theorem cntL_mem : ∀ {l : List Ent} {e : Ent}, Srt l → e ∈ l → cntL l e.row = e.cnt
  | x :: l, e, hs, he => by
    rcases List.mem_cons.1 he with rfl | he
    · exact cntL_head hs
    · have h1 := (List.pairwise_cons.1 hs).1 e he
      rw [cntL, if_neg (by omega), cntL_mem (List.pairwise_cons.1 hs).2 he]; omega

theorem mem_mrg : ∀ (a b : List Ent) (e : Ent), e ∈ mrg a b → (∃ x ∈ a, x.row = e.row) ∨ ∃ y ∈ b, y.row = e.row
  | [], b, e, h => by rw [mrg_nil] at h; exact .inr ⟨e, h, rfl⟩
  | x :: a, [], e, h => by rw [mrg_nil2] at h; exact .inl ⟨e, h, rfl⟩
  | x :: a, y :: b, e, h => by
    rw [mrg_cons] at h
    have la : ∀ {e : Ent}, (∃ x ∈ a, x.row = e.row) → ∃ z ∈ x :: a, z.row = e.row := fun ⟨z, h1, h2⟩ => ⟨z, List.mem_cons_of_mem _ h1, h2⟩
    have lb : ∀ {e : Ent}, (∃ x ∈ b, x.row = e.row) → ∃ z ∈ y :: b, z.row = e.row := fun ⟨z, h1, h2⟩ => ⟨z, List.mem_cons_of_mem _ h1, h2⟩
    split at h
    · rcases List.mem_cons.1 h with rfl | h
      · exact .inl ⟨e, List.mem_cons_self .., rfl⟩
      · exact (mem_mrg a (y :: b) e h).imp la id
    split at h
    · rcases List.mem_cons.1 h with rfl | h
      · exact .inr ⟨e, List.mem_cons_self .., rfl⟩
      · exact (mem_mrg (x :: a) b e h).imp id lb
    · rcases List.mem_cons.1 h with rfl | h
      · exact .inl ⟨x, List.mem_cons_self .., rfl⟩
      · exact (mem_mrg a b e h).imp la lb
termination_by a b => a.length + b.length

theorem srt_mrg : ∀ (a b : List Ent), Srt a → Srt b → Srt (mrg a b)
  | [], b, _, hb => by rw [mrg_nil]; exact hb
  | x :: a, [], ha, _ => by rw [mrg_nil2]; exact ha
  | x :: a, y :: b, ha, hb => by
    have ax := (List.pairwise_cons.1 ha).1
    have bx := (List.pairwise_cons.1 hb).1
    have ha' := (List.pairwise_cons.1 ha).2
    have hb' := (List.pairwise_cons.1 hb).2
    rw [mrg_cons]
    split
    · rename_i hc
      refine List.pairwise_cons.2 ⟨fun e he => ?_, srt_mrg a (y :: b) ha' hb⟩
      rcases mem_mrg a (y :: b) e he with ⟨z, hz, hzr⟩ | ⟨z, hz, hzr⟩
      · rw [← hzr]; exact ax z hz
      · rw [← hzr]
        rcases List.mem_cons.1 hz with rfl | hz
        · exact hc
        · exact rowsCmp_trans _ _ _ hc (bx z hz)
    split
    · rename_i hc0 hc
      have hc' : rowsCmp y.row x.row < 0 := by rw [rowsCmp_anti]; omega
      refine List.pairwise_cons.2 ⟨fun e he => ?_, srt_mrg (x :: a) b ha hb'⟩
      rcases mem_mrg (x :: a) b e he with ⟨z, hz, hzr⟩ | ⟨z, hz, hzr⟩
      · rw [← hzr]
        rcases List.mem_cons.1 hz with rfl | hz
        · exact hc'
        · exact rowsCmp_trans _ _ _ hc' (ax z hz)
      · rw [← hzr]; exact bx z hz
    · have hr : x.row = y.row := (rowsCmp_zero _ _).1 (by have := rowsCmp_vals x.row y.row; omega)
      refine List.pairwise_cons.2 ⟨fun e he => ?_, srt_mrg a b ha' hb'⟩
      rcases mem_mrg a b e he with ⟨z, hz, hzr⟩ | ⟨z, hz, hzr⟩
      · rw [← hzr]; exact ax z hz
      · rw [← hzr]; show rowsCmp x.row z.row < 0; rw [hr]; exact bx z hz
termination_by a b => a.length + b.length

theorem srt_filter {l : List Ent} (p : Ent → Bool) (h : Srt l) : Srt (l.filter p) := List.Pairwise.filter p h

theorem fitB_iff (e : Ent) : fitB e = 0 ↔ e.row.length ≤ 12 ∧ smallB e.cnt = true ∧ e.row.all validB = true := by
  simp only [smallB, Bool.and_eq_true, decide_eq_true_eq]
  unfold fitB
  constructor
  · intro h
    split at h
    · cases h
    · split at h
      · rename_i h1 h2; exact ⟨by omega, ⟨by omega, by omega⟩, h2⟩
      · cases h
  · rintro ⟨h1, ⟨h2, h3⟩, h4⟩
    rw [if_neg (by omega), if_pos h4]

theorem bvGo_iff : ∀ (l : List Ent) (p : Option (List V)), bvGo l p = 0 ↔ (∀ e ∈ l, fitB e = 0 ∧ e.cnt ≠ 0) ∧ Srt l ∧ ∀ q, p = some q → ∀ e ∈ l, rowsCmp q e.row < 0
  | [], p => ⟨fun _ => ⟨fun e h => (by simp at h), List.Pairwise.nil, fun q _ e h => by simp at h⟩, fun _ => rfl⟩
  | x :: l, p => by
    rw [bvGo]
    have nb : notB p x.row = true ↔ ∃ q, p = some q ∧ ¬ rowsCmp q x.row < 0 := by
      cases p with
      | none => simp [notB]
      | some q => simp [notB]
    constructor
    · intro h
      by_cases h1 : fitB x = 0
      · rw [if_neg (by simp [h1])] at h
        by_cases h2 : x.cnt = 0
        · rw [if_pos h2] at h; cases h
        · rw [if_neg h2] at h
          by_cases h3 : notB p x.row = true
          · rw [if_pos h3] at h; cases h
          · rw [if_neg h3] at h
            obtain ⟨g1, g2, g3⟩ := (bvGo_iff l (some x.row)).1 h
            have hp : ∀ q, p = some q → rowsCmp q x.row < 0 := fun q hq => Classical.byContradiction fun hn => h3 (nb.2 ⟨q, hq, hn⟩)
            refine ⟨fun e he => ?_, List.pairwise_cons.2 ⟨g3 _ rfl, g2⟩, fun q hq e he => ?_⟩
            · rcases List.mem_cons.1 he with rfl | he
              · exact ⟨h1, h2⟩
              · exact g1 e he
            · rcases List.mem_cons.1 he with rfl | he
              · exact hp q hq
              · exact rowsCmp_trans _ _ _ (hp q hq) (g3 _ rfl e he)
      · rw [if_pos h1] at h; exact absurd h h1
    · rintro ⟨h1, h2, h3⟩
      have hx := h1 x (List.mem_cons_self ..)
      rw [if_neg (by simp [hx.1]), if_neg hx.2, if_neg (fun h => by
        obtain ⟨q, hq, hn⟩ := nb.1 h
        exact hn (h3 q hq x (List.mem_cons_self ..)))]
      exact (bvGo_iff l (some x.row)).2 ⟨fun e he => h1 e (List.mem_cons_of_mem _ he), (List.pairwise_cons.1 h2).2, fun q hq e he => by cases hq; exact (List.pairwise_cons.1 h2).1 e he⟩

theorem bagB_iff (l : List Ent) : bagB l = 0 ↔ l.length ≤ 4096 ∧ (∀ e ∈ l, fitB e = 0 ∧ e.cnt ≠ 0) ∧ Srt l := by
  rw [bagB]
  constructor
  · intro h
    split at h
    · cases h
    · have := (bvGo_iff l none).1 h
      exact ⟨by omega, this.1, this.2.1⟩
  · rintro ⟨h1, h2, h3⟩
    rw [if_neg (by omega)]
    exact (bvGo_iff l none).2 ⟨h2, h3, fun q hq => by cases hq⟩

theorem resOk {l : List Ent} (hs : Srt l) (hl : (l.filter nzB).length ≤ 4096) (hf : ∀ e ∈ l, e.row.length ≤ 12 ∧ e.row.all validB = true) (hc : ∀ r, smallB (cntL l r) = true) :
    ((l.all fun e => smallB e.cnt) = true ∧ (l.filter nzB).length ≤ 4096) ∧ bagB (l.filter nzB) = 0 := by
  have hsm : ∀ e ∈ l, smallB e.cnt = true := fun e he => by rw [← cntL_mem hs he]; exact hc _
  refine ⟨⟨List.all_eq_true.2 hsm, hl⟩, (bagB_iff _).2 ⟨hl, fun e he => ?_, srt_filter _ hs⟩⟩
  obtain ⟨h1, h2⟩ := List.mem_filter.1 he
  exact ⟨(fitB_iff e).2 ⟨(hf e h1).1, hsm e h1, (hf e h1).2⟩, by simpa [nzB] using h2⟩

theorem fit_row {l : List Ent} (h : bagB l = 0) : ∀ e ∈ l, e.row.length ≤ 12 ∧ e.row.all validB = true := fun e he => by
  have := (fitB_iff e).1 (((bagB_iff l).1 h).2.1 e he).1
  exact ⟨this.1, this.2.2⟩

end Go.AW

namespace Go.AW
variable [Draws]
attribute [local irreducible] ACalls
def g0 : Grp := ⟨0, []⟩

def n5 : V := ⟨2, 5, bs []⟩

theorem n5_valid : validB n5 = true := by kernel_rfl

theorem mrg_one (v : V) (a b : Int) : mrg [⟨[v], a⟩] [⟨[v], b⟩] = [⟨[v], a + b⟩] := by
  have h : rowsCmp [v] [v] = 0 := (rowsCmp_zero _ _).2 rfl
  rw [mrg_cons, if_neg (by show ¬ rowsCmp [v] [v] < 0; omega), if_neg (by show ¬ 0 < rowsCmp [v] [v]; omega), mrg_nil]

theorem srt_one (e : Ent) : Srt [e] := List.pairwise_singleton ..

theorem bagB_one (v : V) (c : Int) (hv : validB v = true) (hc : c ≠ 0) (hs : smallB c = true) : bagB [⟨[v], c⟩] = 0 :=
  (bagB_iff _).2 ⟨by simp, fun e he => by
    rw [List.mem_singleton] at he; subst he
    exact ⟨(fitB_iff _).2 ⟨by simp, hs, by simp [hv]⟩, hc⟩, srt_one _⟩

theorem bagB_nil : bagB [] = 0 := rfl

theorem grpB_intro {g : Grp} (h1 : rowsB g.n = true) (h2 : bagB g.vals = 0) (h3 : g.vals.all oneB = true) : grpB g = 0 := by
  rw [grpB, if_neg (by simp [h1]), if_neg (by simp [h2]), if_pos h3]

theorem k1 : addGE g0 n5 2 = 0 ∧ addGG g0 n5 2 = ⟨2, [⟨[n5], 2⟩]⟩ := by
  have hp : preE g0 n5 2 = 0 := by rw [preE, if_neg (by simp [grpB_intro (g := g0) rfl rfl rfl]), if_neg (by simp [n5_valid]), if_neg (by decide)]
  have ho : oneG n5 2 = ⟨2, [⟨[n5], 2⟩]⟩ := by rw [oneG, if_pos ⟨by decide, by decide⟩]
  have hm : mrgE g0 ⟨2, [⟨[n5], 2⟩]⟩ = 0 := by
    rw [mrgE, if_neg (by decide), sumE, if_neg (by simp [g0, bagB_nil]), if_neg (by simp [bagB_one n5 2 n5_valid (by decide) (by decide)]), if_pos ⟨by simp [g0, mrg_nil, smallB], by simp [g0, mrg_nil, nzB]⟩]
  have e1 : addGE g0 n5 2 = 0 := by rw [addGE, if_neg (by simp [hp]), ho, hm]
  refine ⟨e1, ?_⟩
  rw [addGG, if_neg (by simp [hp]), ho, mrgG, if_pos hm]
  simp [g0, sumL, mrg_nil, nzB]

theorem k2 : addGE ⟨2, [⟨[n5], 2⟩]⟩ n5 (-1) = 0 ∧ addGG ⟨2, [⟨[n5], 2⟩]⟩ n5 (-1) = ⟨1, [⟨[n5], 1⟩]⟩ := by
  have hb := bagB_one n5 2 n5_valid (by decide) (by decide)
  have hp : preE ⟨2, [⟨[n5], 2⟩]⟩ n5 (-1) = 0 := by rw [preE, if_neg (by simp [grpB_intro (g := ⟨2, [⟨[n5], 2⟩]⟩) rfl hb rfl]), if_neg (by simp [n5_valid]), if_neg (by decide)]
  have ho : oneG n5 (-1) = ⟨-1, [⟨[n5], -1⟩]⟩ := by rw [oneG, if_pos ⟨by decide, by decide⟩]
  have hm : mrgE ⟨2, [⟨[n5], 2⟩]⟩ ⟨-1, [⟨[n5], -1⟩]⟩ = 0 := by
    rw [mrgE, if_neg (by decide), sumE, if_neg (by simp [hb]), if_neg (by simp [bagB_one n5 (-1) n5_valid (by decide) (by decide)]), if_pos ⟨by simp [mrg_one, smallB], by simp [mrg_one, nzB]⟩]
  have e1 : addGE ⟨2, [⟨[n5], 2⟩]⟩ n5 (-1) = 0 := by rw [addGE, if_neg (by simp [hp]), ho, hm]
  refine ⟨e1, ?_⟩
  rw [addGG, if_neg (by simp [hp]), ho, mrgG, if_pos hm]
  simp [sumL, mrg_one, nzB]

def gk : Grp := ⟨1, [⟨[n5], 1⟩]⟩

theorem gk_ok : grpB gk = 0 := grpB_intro rfl (bagB_one n5 1 n5_valid (by decide) (by decide)) rfl

theorem k3 : resE 3 gk = 0 ∧ resV 3 gk = n5 ∧ resE 1 gk = 0 ∧ resV 1 gk = ⟨2, 1, bs []⟩ := by
  have h3 : resE 3 gk = 0 := by rw [resE, if_neg (by decide), if_neg (by simp [gk_ok])]; rfl
  have h1 : resE 1 gk = 0 := by rw [resE, if_neg (by decide), if_neg (by simp [gk_ok])]; rfl
  refine ⟨h3, ?_, h1, ?_⟩
  · rw [resV, if_neg (by simp [h3])]; kernel_rfl
  · rw [resV, if_neg (by simp [h1])]; kernel_rfl

structure It where
  v : V
  c : Int

end Go.AW

namespace Go.AW
variable [Draws]
attribute [local irreducible] ACalls
def wsum (φ : List V → Int) : List Ent → Int
  | [] => 0
  | e :: l => e.cnt * φ e.row + wsum φ l

def ind (r : List V) (s : List V) : Int := if rowsCmp s r = 0 then 1 else 0

theorem cntL_wsum : ∀ (l : List Ent) (r : List V), cntL l r = wsum (ind r) l
  | [], _ => rfl
  | e :: l, r => by
    rw [cntL, wsum, cntL_wsum l r, ind]
    split <;> simp

theorem wsum_mrg (φ : List V → Int) : ∀ (a b : List Ent), wsum φ (mrg a b) = wsum φ a + wsum φ b
  | [], b => by rw [mrg_nil, wsum]; omega
  | x :: a, [] => by rw [mrg_nil2]; simp [wsum]
  | x :: a, y :: b => by
    rw [mrg_cons]
    have ex : wsum φ (x :: a) = x.cnt * φ x.row + wsum φ a := rfl
    have ey : wsum φ (y :: b) = y.cnt * φ y.row + wsum φ b := rfl
    split
    · rw [wsum, wsum_mrg φ a (y :: b), ex]; omega
    split
    · rw [wsum, wsum_mrg φ (x :: a) b, ey]; omega
    · have hr : x.row = y.row := (rowsCmp_zero _ _).1 (by have := rowsCmp_vals x.row y.row; omega)
      rw [wsum, wsum_mrg φ a b, ex, ey]
      simp only [hr, Int.add_mul]; omega
termination_by a b => a.length + b.length

theorem wsum_nz (φ : List V → Int) : ∀ (l : List Ent), wsum φ (l.filter nzB) = wsum φ l
  | [] => rfl
  | e :: l => by
    rw [List.filter_cons]
    split
    · rw [wsum, wsum, wsum_nz φ l]
    · rename_i h
      have : e.cnt = 0 := by simpa [nzB] using h
      rw [wsum, wsum_nz φ l, this]; simp

def wt (φ : List V → Int) (x : It) : Int := if x.v.kind ≠ 0 then x.c * φ [x.v] else 0

def tot (f : It → Int) : List It → Int
  | [] => 0
  | x :: l => f x + tot f l

theorem tot_append (f : It → Int) : ∀ (a b : List It), tot f (a ++ b) = tot f a + tot f b
  | [], b => by simp [tot]
  | x :: a, b => by rw [List.cons_append, tot, tot, tot_append f a b]; omega

theorem tot_bound (f : It → Int) (B : Int) (hB : 0 ≤ B) : ∀ (l : List It), (∀ x ∈ l, -B ≤ f x ∧ f x ≤ B) → -(B * l.length) ≤ tot f l ∧ tot f l ≤ B * l.length
  | [], _ => by simp [tot]
  | x :: l, h => by
    have h1 := tot_bound f B hB l fun x hx => h x (List.mem_cons_of_mem _ hx)
    have h2 := h x (List.mem_cons_self ..)
    rw [tot, List.length_cons, Int.natCast_add, Int.mul_add]
    simp only [Int.natCast_one, Int.mul_one]
    omega

structure Rep (G : Grp) (l : List It) : Prop where
  ok : grpB G = 0
  n : G.n = tot It.c l
  cnt : ∀ φ, wsum φ G.vals = tot (wt φ) l
  len : G.vals.length ≤ l.length

def ItOk (x : It) : Prop := validB x.v = true ∧ -5 ≤ x.c ∧ x.c ≤ 5

theorem wt_bound (x : It) (h : ItOk x) (r : List V) : -5 ≤ wt (ind r) x ∧ wt (ind r) x ≤ 5 := by
  obtain ⟨_, h1, h2⟩ := h
  unfold wt ind
  split
  · split <;> omega
  · omega

theorem oneB_row {a b : Ent} (h : a.row = b.row) : oneB a = oneB b := by unfold oneB; rw [h]

theorem Rep.merge {G G' : Grp} {p q : List It} (h : Rep G p) (h' : Rep G' q) (hp : ∀ x ∈ p, ItOk x) (hq : ∀ x ∈ q, ItOk x) (hl : p.length + q.length ≤ 4096) :
    mrgE G G' = 0 ∧ Rep (mrgG G G') (p ++ q) := by
  obtain ⟨_, g1, g2, g3⟩ := grpB_ok h.ok
  obtain ⟨_, k1, k2, k3⟩ := grpB_ok h'.ok
  have hpq : ∀ x ∈ p ++ q, ItOk x := fun x hx => (List.mem_append.1 hx).elim (hp x) (hq x)
  have hn := tot_bound It.c 5 (by omega) (p ++ q) fun x hx => (hpq x hx).2
  rw [tot_append, List.length_append] at hn
  have hc : ∀ r, cntL (mrg G.vals G'.vals) r = tot (wt (ind r)) (p ++ q) := fun r => by rw [cntL_wsum, wsum_mrg, h.cnt, h'.cnt, tot_append]
  have hcs : ∀ r, smallB (cntL (mrg G.vals G'.vals) r) = true := fun r => by
    have := tot_bound (wt (ind r)) 5 (by omega) (p ++ q) fun x hx => wt_bound x (hpq x hx) r
    rw [List.length_append] at this
    rw [hc, smallB]; simp; omega
  have hml := mrg_length G.vals G'.vals
  have hl1 := h.len
  have hl2 := h'.len
  have hfl := List.length_filter_le nzB (mrg G.vals G'.vals)
  have hs := srt_mrg _ _ ((bagB_iff _).1 g2).2.2 ((bagB_iff _).1 k2).2.2
  have hrow : ∀ e ∈ mrg G.vals G'.vals, (e.row.length ≤ 12 ∧ e.row.all validB = true) ∧ oneB e = true := fun e he => by
    rcases mem_mrg _ _ e he with ⟨x, hx, hxr⟩ | ⟨x, hx, hxr⟩
    · exact ⟨hxr ▸ fit_row g2 x hx, oneB_row hxr ▸ List.all_eq_true.1 g3 x hx⟩
    · exact ⟨hxr ▸ fit_row k2 x hx, oneB_row hxr ▸ List.all_eq_true.1 k3 x hx⟩
  obtain ⟨r1, r2⟩ := resOk hs (by omega) (fun e he => (hrow e he).1) hcs
  have hrows : rowsB (G.n + G'.n) = true := by rw [h.n, h'.n, rowsB]; simp; omega
  have hE : mrgE G G' = 0 := by
    rw [mrgE, if_neg (by simp [hrows]), sumE, if_neg (by simp [g2]), if_neg (by simp [k2]), if_pos r1]
  have hG : mrgG G G' = ⟨G.n + G'.n, sumL G.vals G'.vals⟩ := by rw [mrgG, if_pos hE]
  refine ⟨hE, ?_⟩
  rw [hG]
  refine ⟨grpB_intro hrows r2 (List.all_eq_true.2 fun e he => (hrow e (List.mem_filter.1 he).1).2), ?_, fun φ => ?_, ?_⟩
  · rw [tot_append, ← h.n, ← h'.n]
  · show wsum φ ((mrg G.vals G'.vals).filter nzB) = _
    rw [wsum_nz, wsum_mrg, h.cnt, h'.cnt, tot_append]
  · rw [List.length_append]
    show ((mrg G.vals G'.vals).filter nzB).length ≤ _
    omega

theorem Rep.nil : Rep g0 [] := ⟨grpB_intro rfl rfl rfl, rfl, fun _ => rfl, Nat.le_refl _⟩

theorem Rep.one (x : It) (h : ItOk x) : Rep (oneG x.v x.c) [x] := by
  obtain ⟨hv, h1, h2⟩ := h
  have hsm : smallB x.c = true := by simp [smallB]; omega
  have hr : rowsB x.c = true := by simp [rowsB]; omega
  by_cases hx : x.v.kind ≠ 0 ∧ x.c ≠ 0
  · have ho : oneG x.v x.c = ⟨x.c, [⟨[x.v], x.c⟩]⟩ := by rw [oneG, if_pos hx]
    rw [ho]
    refine ⟨grpB_intro hr (bagB_one _ _ hv hx.2 hsm) (by simp [oneB, hx.1]), by simp [tot], fun φ => ?_, by simp⟩
    simp only [tot, wsum, wt]; rw [if_pos hx.1]
  · have ho : oneG x.v x.c = ⟨x.c, []⟩ := by rw [oneG, if_neg hx]
    rw [ho]
    refine ⟨grpB_intro hr rfl rfl, by simp [tot], fun φ => ?_, by simp⟩
    simp only [tot, wsum, wt]
    split
    · rename_i hk
      have : x.c = 0 := Classical.byContradiction fun hn => hx ⟨hk, hn⟩
      rw [this]; simp
    · rfl

theorem Rep.add {G : Grp} {p : List It} {x : It} (h : Rep G p) (hp : ∀ x ∈ p, ItOk x) (hx : ItOk x) (hl : p.length + 1 ≤ 4096) :
    addGE G x.v x.c = 0 ∧ Rep (addGG G x.v x.c) (p ++ [x]) := by
  have hsm : smallB x.c = true := by have := hx.2; simp [smallB]; omega
  have hpre : preE G x.v x.c = 0 := by rw [preE, if_neg (by simp [h.ok]), if_neg (by simp [hx.1]), if_neg (by simp [hsm])]
  have hm := h.merge (Rep.one x hx) hp (fun y hy => by rw [List.mem_singleton] at hy; subst hy; exact hx) (by simpa using hl)
  rw [addGE, addGG, if_neg (by simp [hpre]), if_neg (by simp [hpre])]
  exact hm

end Go.AW

namespace Go.AW
variable [Draws]
def BItem (x : It) : Prop := validB x.v = true ∧ 0 ≤ x.c ∧ x.c ≤ 5 ∧ (x.v.kind ≠ 0 → x.v.kind = 2 ∧ -1073741824 ≤ x.v.num ∧ x.v.num ≤ 1073741824)

theorem BItem.ok {x : It} (h : BItem x) : ItOk x := ⟨h.1, by have := h.2.1; omega, h.2.2.1⟩

end Go.AW

