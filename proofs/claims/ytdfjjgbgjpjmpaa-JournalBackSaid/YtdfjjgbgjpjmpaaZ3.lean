/-
  An abstract machine over the model, the code of functions on it, and their contracts: what the claim needs.
  No condition: definitions, plain laws, contracts over any program that has this code.
-/
import Derived.Test.YtdfjjgbgjpjmpaaZ2
set_option linter.all false
namespace Go.AW
def c_math_bits_Len32 : AFunc := ⟨19, [.tmp 2],
  (.seq
  (.region [
    ⟨(some 2), .move (.c (.int .i64 0)), none⟩])
  (.seq
  (.seq
  (.region [
    ⟨(some 3), .move (.t 0), none⟩,
    ⟨(some 4), .bin .geq (.t 3) (.c (.int .u32 65536)), none⟩])
  (.cond (.t 4)
    (.seq
    (.region [
      ⟨(some 5), .move (.t 0), none⟩,
      ⟨(some 6), .bin .shr (.t 5) (.c (.int .u64 16)), none⟩,
      ⟨(some 0), .move (.t 6), none⟩])
    (.region [
      ⟨(some 2), .move (.c (.int .i64 16)), none⟩]))
    .skip))
  (.seq
  (.seq
  (.region [
    ⟨(some 7), .move (.t 0), none⟩,
    ⟨(some 8), .bin .geq (.t 7) (.c (.int .u32 256)), none⟩])
  (.cond (.t 8)
    (.seq
    (.region [
      ⟨(some 9), .move (.t 0), none⟩,
      ⟨(some 10), .bin .shr (.t 9) (.c (.int .u64 8)), none⟩,
      ⟨(some 0), .move (.t 10), none⟩])
    (.region [
      ⟨(some 11), .move (.t 2), none⟩,
      ⟨(some 12), .bin .add (.t 11) (.c (.int .i64 8)), none⟩,
      ⟨(some 2), .move (.t 12), none⟩]))
    .skip))
  (.seq
  (.region [
    ⟨(some 13), .move (.t 2), none⟩,
    ⟨(some 14), .move (.t 0), none⟩,
    ⟨(some 15), .conv .u8 (.t 14), none⟩,
    ⟨(some 16), .indexStr (.c (.str (bs [0, 1, 2, 2, 3, 3, 3, 3, 4, 4, 4, 4, 4, 4, 4, 4, 5, 5, 5, 5, 5, 5, 5, 5, 5, 5, 5, 5, 5, 5, 5, 5, 6, 6, 6, 6, 6, 6, 6, 6, 6, 6, 6, 6, 6, 6, 6, 6, 6, 6, 6, 6, 6, 6, 6, 6, 6, 6, 6, 6, 6, 6, 6, 6, 7, 7, 7, 7, 7, 7, 7, 7, 7, 7, 7, 7, 7, 7, 7, 7, 7, 7, 7, 7, 7, 7, 7, 7, 7, 7, 7, 7, 7, 7, 7, 7, 7, 7, 7, 7, 7, 7, 7, 7, 7, 7, 7, 7, 7, 7, 7, 7, 7, 7, 7, 7, 7, 7, 7, 7, 7, 7, 7, 7, 7, 7, 7, 7, 8, 8, 8, 8, 8, 8, 8, 8, 8, 8, 8, 8, 8, 8, 8, 8, 8, 8, 8, 8, 8, 8, 8, 8, 8, 8, 8, 8, 8, 8, 8, 8, 8, 8, 8, 8, 8, 8, 8, 8, 8, 8, 8, 8, 8, 8, 8, 8, 8, 8, 8, 8, 8, 8, 8, 8, 8, 8, 8, 8, 8, 8, 8, 8, 8, 8, 8, 8, 8, 8, 8, 8, 8, 8, 8, 8, 8, 8, 8, 8, 8, 8, 8, 8, 8, 8, 8, 8, 8, 8, 8, 8, 8, 8, 8, 8, 8, 8, 8, 8, 8, 8, 8, 8, 8, 8, 8, 8, 8, 8, 8, 8, 8, 8, 8, 8, 8, 8, 8, 8, 8, 8, 8, 8, 8, 8, 8, 8]))) (.t 15), none⟩,
    ⟨(some 17), .conv .i64 (.t 16), none⟩,
    ⟨(some 18), .bin .add (.t 13) (.t 17), none⟩,
    ⟨(some 2), .move (.t 18), none⟩])
  .ret))))⟩

structure F_math_bits_Len32 (P : Program) where
  id : FuncId
  has : Has P id [] c_math_bits_Len32

def c_math_bits_Len64 : AFunc := ⟨25, [.tmp 2],
  (.seq
  (.region [
    ⟨(some 2), .move (.c (.int .i64 0)), none⟩])
  (.seq
  (.seq
  (.region [
    ⟨(some 3), .move (.t 0), none⟩,
    ⟨(some 4), .bin .geq (.t 3) (.c (.int .u64 4294967296)), none⟩])
  (.cond (.t 4)
    (.seq
    (.region [
      ⟨(some 5), .move (.t 0), none⟩,
      ⟨(some 6), .bin .shr (.t 5) (.c (.int .u64 32)), none⟩,
      ⟨(some 0), .move (.t 6), none⟩])
    (.region [
      ⟨(some 2), .move (.c (.int .i64 32)), none⟩]))
    .skip))
  (.seq
  (.seq
  (.region [
    ⟨(some 7), .move (.t 0), none⟩,
    ⟨(some 8), .bin .geq (.t 7) (.c (.int .u64 65536)), none⟩])
  (.cond (.t 8)
    (.seq
    (.region [
      ⟨(some 9), .move (.t 0), none⟩,
      ⟨(some 10), .bin .shr (.t 9) (.c (.int .u64 16)), none⟩,
      ⟨(some 0), .move (.t 10), none⟩])
    (.region [
      ⟨(some 11), .move (.t 2), none⟩,
      ⟨(some 12), .bin .add (.t 11) (.c (.int .i64 16)), none⟩,
      ⟨(some 2), .move (.t 12), none⟩]))
    .skip))
  (.seq
  (.seq
  (.region [
    ⟨(some 13), .move (.t 0), none⟩,
    ⟨(some 14), .bin .geq (.t 13) (.c (.int .u64 256)), none⟩])
  (.cond (.t 14)
    (.seq
    (.region [
      ⟨(some 15), .move (.t 0), none⟩,
      ⟨(some 16), .bin .shr (.t 15) (.c (.int .u64 8)), none⟩,
      ⟨(some 0), .move (.t 16), none⟩])
    (.region [
      ⟨(some 17), .move (.t 2), none⟩,
      ⟨(some 18), .bin .add (.t 17) (.c (.int .i64 8)), none⟩,
      ⟨(some 2), .move (.t 18), none⟩]))
    .skip))
  (.seq
  (.region [
    ⟨(some 19), .move (.t 2), none⟩,
    ⟨(some 20), .move (.t 0), none⟩,
    ⟨(some 21), .conv .u8 (.t 20), none⟩,
    ⟨(some 22), .indexStr (.c (.str (bs [0, 1, 2, 2, 3, 3, 3, 3, 4, 4, 4, 4, 4, 4, 4, 4, 5, 5, 5, 5, 5, 5, 5, 5, 5, 5, 5, 5, 5, 5, 5, 5, 6, 6, 6, 6, 6, 6, 6, 6, 6, 6, 6, 6, 6, 6, 6, 6, 6, 6, 6, 6, 6, 6, 6, 6, 6, 6, 6, 6, 6, 6, 6, 6, 7, 7, 7, 7, 7, 7, 7, 7, 7, 7, 7, 7, 7, 7, 7, 7, 7, 7, 7, 7, 7, 7, 7, 7, 7, 7, 7, 7, 7, 7, 7, 7, 7, 7, 7, 7, 7, 7, 7, 7, 7, 7, 7, 7, 7, 7, 7, 7, 7, 7, 7, 7, 7, 7, 7, 7, 7, 7, 7, 7, 7, 7, 7, 7, 8, 8, 8, 8, 8, 8, 8, 8, 8, 8, 8, 8, 8, 8, 8, 8, 8, 8, 8, 8, 8, 8, 8, 8, 8, 8, 8, 8, 8, 8, 8, 8, 8, 8, 8, 8, 8, 8, 8, 8, 8, 8, 8, 8, 8, 8, 8, 8, 8, 8, 8, 8, 8, 8, 8, 8, 8, 8, 8, 8, 8, 8, 8, 8, 8, 8, 8, 8, 8, 8, 8, 8, 8, 8, 8, 8, 8, 8, 8, 8, 8, 8, 8, 8, 8, 8, 8, 8, 8, 8, 8, 8, 8, 8, 8, 8, 8, 8, 8, 8, 8, 8, 8, 8, 8, 8, 8, 8, 8, 8, 8, 8, 8, 8, 8, 8, 8, 8, 8, 8, 8, 8, 8, 8, 8, 8, 8, 8]))) (.t 21), none⟩,
    ⟨(some 23), .conv .i64 (.t 22), none⟩,
    ⟨(some 24), .bin .add (.t 19) (.t 23), none⟩,
    ⟨(some 2), .move (.t 24), none⟩])
  .ret)))))⟩

structure F_math_bits_Len64 (P : Program) where
  id : FuncId
  has : Has P id [] c_math_bits_Len64

def c_math_bits_Len (f_math_bits_Len32 : FuncId) (f_math_bits_Len64 : FuncId) : AFunc := ⟨8, [.tmp 2],
  (.seq
  (.region [
    ⟨(some 2), .move (.c (.int .i64 0)), none⟩])
  (.seq
  (.cond (.c (.bool false))
    (.seq
    (.region [
      ⟨(some 3), .move (.t 0), none⟩,
      ⟨(some 4), .conv .u32 (.t 3), none⟩,
      ⟨(some 5), .call f_math_bits_Len32 [(.t 4)], none⟩,
      ⟨(some 2), .move (.t 5), none⟩])
    .ret)
    .skip)
  (.seq
  (.region [
    ⟨(some 6), .move (.t 0), none⟩,
    ⟨(some 7), .call f_math_bits_Len64 [(.t 6)], none⟩,
    ⟨(some 2), .move (.t 7), none⟩])
  .ret)))⟩

structure F_math_bits_Len (P : Program) where
  id : FuncId
  math_bits_Len32 : F_math_bits_Len32 P
  math_bits_Len64 : F_math_bits_Len64 P
  has : Has P id [] (c_math_bits_Len math_bits_Len32.id math_bits_Len64.id)

def c_slices_insertionSortCmpFunc_Entry : AFunc := ⟨53, [],
  (.seq
  (.region [
    ⟨(some 10), .move (.t 1), none⟩,
    ⟨(some 11), .bin .add (.t 10) (.c (.int .i64 1)), none⟩,
    ⟨(some 8), .move (.t 11), none⟩])
  (.block 0
    (.loop
      (.seq
      (.seq
      (.region [
        ⟨(some 12), .move (.t 8), none⟩,
        ⟨(some 13), .move (.t 2), none⟩,
        ⟨(some 14), .bin .lss (.t 12) (.t 13), none⟩])
      (.cond (.t 14)
        .skip
        (.exit 0)))
      (.seq
      (.block 1
        (.seq
        (.region [
          ⟨(some 17), .move (.t 8), none⟩,
          ⟨(some 9), .move (.t 17), none⟩])
        (.block 2
          (.loop
            (.seq
            (.seq
            (.draw [
              (⟨(some 18), .move (.t 9), none⟩, []),
              (⟨(some 19), .move (.t 1), none⟩, []),
              (⟨(some 20), .bin .gtr (.t 18) (.t 19), none⟩, []),
              (⟨(some 21), .move (.t 20), none⟩, []),
              (⟨(some 22), .move (.t 3), some (some 21, true)⟩, []),
              (⟨(some 23), .move (.t 0), some (some 21, true)⟩, []),
              (⟨(some 24), .move (.t 9), some (some 21, true)⟩, []),
              (⟨(some 25), .indexAddr 2 (.t 23) (.t 24), some (some 21, true)⟩, []),
              (⟨(some 26), .load true 2 (.t 25), some (some 21, true)⟩, []),
              (⟨(some 27), .move (.t 0), some (some 21, true)⟩, []),
              (⟨(some 28), .move (.t 9), some (some 21, true)⟩, []),
              (⟨(some 29), .bin .sub (.t 28) (.c (.int .i64 1)), some (some 21, true)⟩, []),
              (⟨(some 30), .indexAddr 2 (.t 27) (.t 29), some (some 21, true)⟩, []),
              (⟨(some 31), .load true 2 (.t 30), some (some 21, true)⟩, []),
              (⟨(some 32), .callv (.t 22) [(.t 26), (.t 31)], some (some 21, true)⟩, []),
              (⟨(some 33), .bin .lss (.t 32) (.c (.int .i64 0)), some (some 21, true)⟩, []),
              (⟨(some 34), .pick (.t 21) (.t 33) (.c (.bool false)), none⟩, [])])
            (.cond (.t 34)
              .skip
              (.exit 2)))
            (.seq
            (.block 3
              (.draw [
                (⟨(some 37), .move (.t 0), none⟩, []),
                (⟨(some 38), .move (.t 9), none⟩, []),
                (⟨(some 39), .move (.t 0), none⟩, []),
                (⟨(some 40), .move (.t 9), none⟩, []),
                (⟨(some 41), .bin .sub (.t 40) (.c (.int .i64 1)), none⟩, []),
                (⟨(some 42), .move (.t 0), none⟩, []),
                (⟨(some 43), .move (.t 9), none⟩, []),
                (⟨(some 44), .bin .sub (.t 43) (.c (.int .i64 1)), none⟩, []),
                (⟨(some 45), .indexAddr 2 (.t 42) (.t 44), none⟩, []),
                (⟨(some 46), .load true 2 (.t 45), none⟩, []),
                (⟨(some 47), .move (.t 0), none⟩, []),
                (⟨(some 48), .move (.t 9), none⟩, []),
                (⟨(some 49), .indexAddr 2 (.t 47) (.t 48), none⟩, []),
                (⟨(some 50), .load true 2 (.t 49), none⟩, []),
                (⟨(some 51), .indexAddr 2 (.t 37) (.t 38), none⟩, []),
                (⟨none, .store 2 (.t 51) (.t 46), none⟩, []),
                (⟨(some 52), .indexAddr 2 (.t 39) (.t 41), none⟩, []),
                (⟨none, .store 2 (.t 52) (.t 50), none⟩, [])]))
            (.region [
              ⟨(some 35), .move (.t 9), none⟩,
              ⟨(some 36), .bin .sub (.t 35) (.c (.int .i64 1)), none⟩,
              ⟨(some 9), .move (.t 36), none⟩])))))))
      (.region [
        ⟨(some 15), .move (.t 8), none⟩,
        ⟨(some 16), .bin .add (.t 15) (.c (.int .i64 1)), none⟩,
        ⟨(some 8), .move (.t 16), none⟩]))))))⟩

structure F_slices_insertionSortCmpFunc_Entry (P : Program) where
  id : FuncId
  has : Has P id [] c_slices_insertionSortCmpFunc_Entry

def c_slices_siftDownCmpFunc_Entry : AFunc := ⟨82, [],
  (.seq
  (.region [
    ⟨(some 12), .move (.t 1), none⟩,
    ⟨(some 10), .move (.t 12), none⟩])
  (.block 0
    (.loop
      (.block 1
        (.seq
        (.region [
          ⟨(some 13), .move (.t 10), none⟩,
          ⟨(some 14), .bin .mul (.c (.int .i64 2)) (.t 13), none⟩,
          ⟨(some 15), .bin .add (.t 14) (.c (.int .i64 1)), none⟩,
          ⟨(some 11), .move (.t 15), none⟩])
        (.seq
        (.seq
        (.region [
          ⟨(some 16), .move (.t 11), none⟩,
          ⟨(some 17), .move (.t 2), none⟩,
          ⟨(some 18), .bin .geq (.t 16) (.t 17), none⟩])
        (.cond (.t 18)
          (.exit 0)
          .skip))
        (.seq
        (.seq
        (.draw [
          (⟨(some 19), .move (.t 11), none⟩, []),
          (⟨(some 20), .bin .add (.t 19) (.c (.int .i64 1)), none⟩, []),
          (⟨(some 21), .move (.t 2), none⟩, []),
          (⟨(some 22), .bin .lss (.t 20) (.t 21), none⟩, []),
          (⟨(some 23), .move (.t 22), none⟩, []),
          (⟨(some 24), .move (.t 4), some (some 23, true)⟩, []),
          (⟨(some 25), .move (.t 0), some (some 23, true)⟩, []),
          (⟨(some 26), .move (.t 3), some (some 23, true)⟩, []),
          (⟨(some 27), .move (.t 11), some (some 23, true)⟩, []),
          (⟨(some 28), .bin .add (.t 26) (.t 27), some (some 23, true)⟩, []),
          (⟨(some 29), .indexAddr 2 (.t 25) (.t 28), some (some 23, true)⟩, []),
          (⟨(some 30), .load true 2 (.t 29), some (some 23, true)⟩, []),
          (⟨(some 31), .move (.t 0), some (some 23, true)⟩, []),
          (⟨(some 32), .move (.t 3), some (some 23, true)⟩, []),
          (⟨(some 33), .move (.t 11), some (some 23, true)⟩, []),
          (⟨(some 34), .bin .add (.t 32) (.t 33), some (some 23, true)⟩, []),
          (⟨(some 35), .bin .add (.t 34) (.c (.int .i64 1)), some (some 23, true)⟩, []),
          (⟨(some 36), .indexAddr 2 (.t 31) (.t 35), some (some 23, true)⟩, []),
          (⟨(some 37), .load true 2 (.t 36), some (some 23, true)⟩, []),
          (⟨(some 38), .callv (.t 24) [(.t 30), (.t 37)], some (some 23, true)⟩, []),
          (⟨(some 39), .bin .lss (.t 38) (.c (.int .i64 0)), some (some 23, true)⟩, []),
          (⟨(some 40), .pick (.t 23) (.t 39) (.c (.bool false)), none⟩, [])])
        (.cond (.t 40)
          (.region [
            ⟨(some 41), .move (.t 11), none⟩,
            ⟨(some 42), .bin .add (.t 41) (.c (.int .i64 1)), none⟩,
            ⟨(some 11), .move (.t 42), none⟩])
          .skip))
        (.seq
        (.seq
        (.draw [
          (⟨(some 43), .move (.t 4), none⟩, []),
          (⟨(some 44), .move (.t 0), none⟩, []),
          (⟨(some 45), .move (.t 3), none⟩, []),
          (⟨(some 46), .move (.t 10), none⟩, []),
          (⟨(some 47), .bin .add (.t 45) (.t 46), none⟩, []),
          (⟨(some 48), .indexAddr 2 (.t 44) (.t 47), none⟩, []),
          (⟨(some 49), .load true 2 (.t 48), none⟩, []),
          (⟨(some 50), .move (.t 0), none⟩, []),
          (⟨(some 51), .move (.t 3), none⟩, []),
          (⟨(some 52), .move (.t 11), none⟩, []),
          (⟨(some 53), .bin .add (.t 51) (.t 52), none⟩, []),
          (⟨(some 54), .indexAddr 2 (.t 50) (.t 53), none⟩, []),
          (⟨(some 55), .load true 2 (.t 54), none⟩, []),
          (⟨(some 56), .callv (.t 43) [(.t 49), (.t 55)], none⟩, []),
          (⟨(some 57), .bin .lss (.t 56) (.c (.int .i64 0)), none⟩, []),
          (⟨(some 58), .un .not (.t 57), none⟩, [])])
        (.cond (.t 58)
          .ret
          .skip))
        (.seq
        (.draw [
          (⟨(some 59), .move (.t 0), none⟩, []),
          (⟨(some 60), .move (.t 3), none⟩, []),
          (⟨(some 61), .move (.t 10), none⟩, []),
          (⟨(some 62), .bin .add (.t 60) (.t 61), none⟩, []),
          (⟨(some 63), .move (.t 0), none⟩, []),
          (⟨(some 64), .move (.t 3), none⟩, []),
          (⟨(some 65), .move (.t 11), none⟩, []),
          (⟨(some 66), .bin .add (.t 64) (.t 65), none⟩, []),
          (⟨(some 67), .move (.t 0), none⟩, []),
          (⟨(some 68), .move (.t 3), none⟩, []),
          (⟨(some 69), .move (.t 11), none⟩, []),
          (⟨(some 70), .bin .add (.t 68) (.t 69), none⟩, []),
          (⟨(some 71), .indexAddr 2 (.t 67) (.t 70), none⟩, []),
          (⟨(some 72), .load true 2 (.t 71), none⟩, []),
          (⟨(some 73), .move (.t 0), none⟩, []),
          (⟨(some 74), .move (.t 3), none⟩, []),
          (⟨(some 75), .move (.t 10), none⟩, []),
          (⟨(some 76), .bin .add (.t 74) (.t 75), none⟩, []),
          (⟨(some 77), .indexAddr 2 (.t 73) (.t 76), none⟩, []),
          (⟨(some 78), .load true 2 (.t 77), none⟩, []),
          (⟨(some 79), .indexAddr 2 (.t 59) (.t 62), none⟩, []),
          (⟨none, .store 2 (.t 79) (.t 72), none⟩, []),
          (⟨(some 80), .indexAddr 2 (.t 63) (.t 66), none⟩, []),
          (⟨none, .store 2 (.t 80) (.t 78), none⟩, [])])
        (.region [
          ⟨(some 81), .move (.t 11), none⟩,
          ⟨(some 10), .move (.t 81), none⟩]))))))))))⟩

structure F_slices_siftDownCmpFunc_Entry (P : Program) where
  id : FuncId
  has : Has P id [] c_slices_siftDownCmpFunc_Entry

def c_slices_heapSortCmpFunc_Entry (f_slices_siftDownCmpFunc_Entry : FuncId) : AFunc := ⟨60, [],
  (.seq
  (.region [
    ⟨(some 13), .move (.t 1), none⟩,
    ⟨(some 8), .move (.t 13), none⟩])
  (.seq
  (.region [
    ⟨(some 9), .move (.c (.int .i64 0)), none⟩])
  (.seq
  (.region [
    ⟨(some 14), .move (.t 2), none⟩,
    ⟨(some 15), .move (.t 1), none⟩,
    ⟨(some 16), .bin .sub (.t 14) (.t 15), none⟩,
    ⟨(some 10), .move (.t 16), none⟩])
  (.seq
  (.seq
  (.region [
    ⟨(some 17), .move (.t 10), none⟩,
    ⟨(some 18), .bin .sub (.t 17) (.c (.int .i64 1)), none⟩,
    ⟨(some 19), .bin .quo (.t 18) (.c (.int .i64 2)), none⟩,
    ⟨(some 11), .move (.t 19), none⟩])
  (.block 0
    (.loop
      (.seq
      (.seq
      (.region [
        ⟨(some 20), .move (.t 11), none⟩,
        ⟨(some 21), .bin .geq (.t 20) (.c (.int .i64 0)), none⟩])
      (.cond (.t 21)
        .skip
        (.exit 0)))
      (.seq
      (.block 1
        (.region [
          ⟨(some 24), .move (.t 0), none⟩,
          ⟨(some 25), .move (.t 11), none⟩,
          ⟨(some 26), .move (.t 10), none⟩,
          ⟨(some 27), .move (.t 8), none⟩,
          ⟨(some 28), .move (.t 3), none⟩,
          ⟨(some 29), .call f_slices_siftDownCmpFunc_Entry [(.t 24), (.t 25), (.t 26), (.t 27), (.t 28)], none⟩]))
      (.region [
        ⟨(some 22), .move (.t 11), none⟩,
        ⟨(some 23), .bin .sub (.t 22) (.c (.int .i64 1)), none⟩,
        ⟨(some 11), .move (.t 23), none⟩]))))))
  (.seq
  (.region [
    ⟨(some 30), .move (.t 10), none⟩,
    ⟨(some 31), .bin .sub (.t 30) (.c (.int .i64 1)), none⟩,
    ⟨(some 12), .move (.t 31), none⟩])
  (.block 2
    (.loop
      (.seq
      (.seq
      (.region [
        ⟨(some 32), .move (.t 12), none⟩,
        ⟨(some 33), .bin .geq (.t 32) (.c (.int .i64 0)), none⟩])
      (.cond (.t 33)
        .skip
        (.exit 2)))
      (.seq
      (.block 3
        (.seq
        (.draw [
          (⟨(some 36), .move (.t 0), none⟩, []),
          (⟨(some 37), .move (.t 8), none⟩, []),
          (⟨(some 38), .move (.t 0), none⟩, []),
          (⟨(some 39), .move (.t 8), none⟩, []),
          (⟨(some 40), .move (.t 12), none⟩, []),
          (⟨(some 41), .bin .add (.t 39) (.t 40), none⟩, []),
          (⟨(some 42), .move (.t 0), none⟩, []),
          (⟨(some 43), .move (.t 8), none⟩, []),
          (⟨(some 44), .move (.t 12), none⟩, []),
          (⟨(some 45), .bin .add (.t 43) (.t 44), none⟩, []),
          (⟨(some 46), .indexAddr 2 (.t 42) (.t 45), none⟩, []),
          (⟨(some 47), .load true 2 (.t 46), none⟩, []),
          (⟨(some 48), .move (.t 0), none⟩, []),
          (⟨(some 49), .move (.t 8), none⟩, []),
          (⟨(some 50), .indexAddr 2 (.t 48) (.t 49), none⟩, []),
          (⟨(some 51), .load true 2 (.t 50), none⟩, []),
          (⟨(some 52), .indexAddr 2 (.t 36) (.t 37), none⟩, []),
          (⟨none, .store 2 (.t 52) (.t 47), none⟩, []),
          (⟨(some 53), .indexAddr 2 (.t 38) (.t 41), none⟩, []),
          (⟨none, .store 2 (.t 53) (.t 51), none⟩, [])])
        (.region [
          ⟨(some 54), .move (.t 0), none⟩,
          ⟨(some 55), .move (.t 9), none⟩,
          ⟨(some 56), .move (.t 12), none⟩,
          ⟨(some 57), .move (.t 8), none⟩,
          ⟨(some 58), .move (.t 3), none⟩,
          ⟨(some 59), .call f_slices_siftDownCmpFunc_Entry [(.t 54), (.t 55), (.t 56), (.t 57), (.t 58)], none⟩])))
      (.region [
        ⟨(some 34), .move (.t 12), none⟩,
        ⟨(some 35), .bin .sub (.t 34) (.c (.int .i64 1)), none⟩,
        ⟨(some 12), .move (.t 35), none⟩]))))))))))⟩

structure F_slices_heapSortCmpFunc_Entry (P : Program) where
  id : FuncId
  slices_siftDownCmpFunc_Entry : F_slices_siftDownCmpFunc_Entry P
  has : Has P id [] (c_slices_heapSortCmpFunc_Entry slices_siftDownCmpFunc_Entry.id)

def c_slices_nextPowerOfTwo (f_math_bits_Len : FuncId) : AFunc := ⟨7, [.tmp 2],
  (.seq
  (.region [
    ⟨(some 2), .move (.c (.int .u64 0)), none⟩])
  (.seq
  (.region [
    ⟨(some 3), .move (.t 0), none⟩,
    ⟨(some 4), .conv .u64 (.t 3), none⟩,
    ⟨(some 5), .call f_math_bits_Len [(.t 4)], none⟩,
    ⟨(some 6), .bin .shl (.c (.int .u64 1)) (.t 5), none⟩,
    ⟨(some 2), .move (.t 6), none⟩])
  .ret))⟩

structure F_slices_nextPowerOfTwo (P : Program) where
  id : FuncId
  math_bits_Len : F_math_bits_Len P
  has : Has P id [] (c_slices_nextPowerOfTwo math_bits_Len.id)

def c_slices_xorshift_Next : AFunc := ⟨33, [.tmp 2],
  (.seq
  (.region [
    ⟨(some 2), .move (.c (.int .u64 0)), none⟩])
  (.seq
  (.draw [
    (⟨(some 3), .move (.t 0), none⟩, []),
    (⟨(some 4), .nop (.t 3), none⟩, []),
    (⟨(some 5), .load false 1 (.t 4), none⟩, []),
    (⟨(some 6), .move (.t 0), none⟩, []),
    (⟨(some 7), .nop (.t 6), none⟩, []),
    (⟨(some 8), .load false 1 (.t 7), none⟩, []),
    (⟨(some 9), .bin .shl (.t 8) (.c (.int .u64 13)), none⟩, []),
    (⟨(some 10), .bin .xor (.t 5) (.t 9), none⟩, []),
    (⟨(some 11), .nop (.t 3), none⟩, []),
    (⟨none, .store 1 (.t 11) (.t 10), none⟩, [])])
  (.seq
  (.draw [
    (⟨(some 12), .move (.t 0), none⟩, []),
    (⟨(some 13), .nop (.t 12), none⟩, []),
    (⟨(some 14), .load false 1 (.t 13), none⟩, []),
    (⟨(some 15), .move (.t 0), none⟩, []),
    (⟨(some 16), .nop (.t 15), none⟩, []),
    (⟨(some 17), .load false 1 (.t 16), none⟩, []),
    (⟨(some 18), .bin .shr (.t 17) (.c (.int .u64 7)), none⟩, []),
    (⟨(some 19), .bin .xor (.t 14) (.t 18), none⟩, []),
    (⟨(some 20), .nop (.t 12), none⟩, []),
    (⟨none, .store 1 (.t 20) (.t 19), none⟩, [])])
  (.seq
  (.draw [
    (⟨(some 21), .move (.t 0), none⟩, []),
    (⟨(some 22), .nop (.t 21), none⟩, []),
    (⟨(some 23), .load false 1 (.t 22), none⟩, []),
    (⟨(some 24), .move (.t 0), none⟩, []),
    (⟨(some 25), .nop (.t 24), none⟩, []),
    (⟨(some 26), .load false 1 (.t 25), none⟩, []),
    (⟨(some 27), .bin .shl (.t 26) (.c (.int .u64 17)), none⟩, []),
    (⟨(some 28), .bin .xor (.t 23) (.t 27), none⟩, []),
    (⟨(some 29), .nop (.t 21), none⟩, []),
    (⟨none, .store 1 (.t 29) (.t 28), none⟩, [])])
  (.seq
  (.region [
    ⟨(some 30), .move (.t 0), none⟩,
    ⟨(some 31), .nop (.t 30), none⟩,
    ⟨(some 32), .load false 1 (.t 31), none⟩,
    ⟨(some 2), .move (.t 32), none⟩])
  .ret)))))⟩

structure F_slices_xorshift_Next (P : Program) where
  id : FuncId
  has : Has P id [] c_slices_xorshift_Next

def c_slices_breakPatternsCmpFunc_Entry (f_slices_nextPowerOfTwo : FuncId) (f_slices_xorshift_Next : FuncId) : AFunc := ⟨67, [],
  (.seq
  (.region [
    ⟨(some 13), .move (.t 2), none⟩,
    ⟨(some 14), .move (.t 1), none⟩,
    ⟨(some 15), .bin .sub (.t 13) (.t 14), none⟩,
    ⟨(some 8), .move (.t 15), none⟩])
  (.seq
  (.region [
    ⟨(some 16), .move (.t 8), none⟩,
    ⟨(some 17), .bin .geq (.t 16) (.c (.int .i64 8)), none⟩])
  (.cond (.t 17)
    (.seq
    (.region [
      ⟨(some 18), .move (.t 8), none⟩,
      ⟨(some 19), .conv .u64 (.t 18), none⟩,
      ⟨(some 9), .alloc [(.int .u64 0)], none⟩,
      ⟨none, .store 1 (.t 9) (.t 19), none⟩])
    (.seq
    (.region [
      ⟨(some 20), .move (.t 8), none⟩,
      ⟨(some 21), .call f_slices_nextPowerOfTwo [(.t 20)], none⟩,
      ⟨(some 10), .move (.t 21), none⟩])
    (.seq
    (.region [
      ⟨(some 22), .move (.t 1), none⟩,
      ⟨(some 23), .move (.t 8), none⟩,
      ⟨(some 24), .bin .quo (.t 23) (.c (.int .i64 4)), none⟩,
      ⟨(some 25), .bin .mul (.t 24) (.c (.int .i64 2)), none⟩,
      ⟨(some 26), .bin .add (.t 22) (.t 25), none⟩,
      ⟨(some 27), .bin .sub (.t 26) (.c (.int .i64 1)), none⟩,
      ⟨(some 11), .move (.t 27), none⟩])
    (.block 0
      (.loop
        (.seq
        (.seq
        (.region [
          ⟨(some 28), .move (.t 11), none⟩,
          ⟨(some 29), .move (.t 1), none⟩,
          ⟨(some 30), .move (.t 8), none⟩,
          ⟨(some 31), .bin .quo (.t 30) (.c (.int .i64 4)), none⟩,
          ⟨(some 32), .bin .mul (.t 31) (.c (.int .i64 2)), none⟩,
          ⟨(some 33), .bin .add (.t 29) (.t 32), none⟩,
          ⟨(some 34), .bin .add (.t 33) (.c (.int .i64 1)), none⟩,
          ⟨(some 35), .bin .leq (.t 28) (.t 34), none⟩])
        (.cond (.t 35)
          .skip
          (.exit 0)))
        (.seq
        (.block 1
          (.seq
          (.region [
            ⟨(some 38), .call f_slices_xorshift_Next [(.t 9)], none⟩,
            ⟨(some 39), .move (.t 10), none⟩,
            ⟨(some 40), .bin .sub (.t 39) (.c (.int .u64 1)), none⟩,
            ⟨(some 41), .bin .and (.t 38) (.t 40), none⟩,
            ⟨(some 42), .conv .i64 (.t 41), none⟩,
            ⟨(some 12), .move (.t 42), none⟩])
          (.seq
          (.seq
          (.region [
            ⟨(some 43), .move (.t 12), none⟩,
            ⟨(some 44), .move (.t 8), none⟩,
            ⟨(some 45), .bin .geq (.t 43) (.t 44), none⟩])
          (.cond (.t 45)
            (.region [
              ⟨(some 46), .move (.t 12), none⟩,
              ⟨(some 47), .move (.t 8), none⟩,
              ⟨(some 48), .bin .sub (.t 46) (.t 47), none⟩,
              ⟨(some 12), .move (.t 48), none⟩])
            .skip))
          (.draw [
            (⟨(some 49), .move (.t 0), none⟩, []),
            (⟨(some 50), .move (.t 11), none⟩, []),
            (⟨(some 51), .move (.t 0), none⟩, []),
            (⟨(some 52), .move (.t 1), none⟩, []),
            (⟨(some 53), .move (.t 12), none⟩, []),
            (⟨(some 54), .bin .add (.t 52) (.t 53), none⟩, []),
            (⟨(some 55), .move (.t 0), none⟩, []),
            (⟨(some 56), .move (.t 1), none⟩, []),
            (⟨(some 57), .move (.t 12), none⟩, []),
            (⟨(some 58), .bin .add (.t 56) (.t 57), none⟩, []),
            (⟨(some 59), .indexAddr 2 (.t 55) (.t 58), none⟩, []),
            (⟨(some 60), .load true 2 (.t 59), none⟩, []),
            (⟨(some 61), .move (.t 0), none⟩, []),
            (⟨(some 62), .move (.t 11), none⟩, []),
            (⟨(some 63), .indexAddr 2 (.t 61) (.t 62), none⟩, []),
            (⟨(some 64), .load true 2 (.t 63), none⟩, []),
            (⟨(some 65), .indexAddr 2 (.t 49) (.t 50), none⟩, []),
            (⟨none, .store 2 (.t 65) (.t 60), none⟩, []),
            (⟨(some 66), .indexAddr 2 (.t 51) (.t 54), none⟩, []),
            (⟨none, .store 2 (.t 66) (.t 64), none⟩, [])]))))
        (.region [
          ⟨(some 36), .move (.t 11), none⟩,
          ⟨(some 37), .bin .add (.t 36) (.c (.int .i64 1)), none⟩,
          ⟨(some 11), .move (.t 37), none⟩]))))))))
    .skip)))⟩

structure F_slices_breakPatternsCmpFunc_Entry (P : Program) where
  id : FuncId
  slices_nextPowerOfTwo : F_slices_nextPowerOfTwo P
  slices_xorshift_Next : F_slices_xorshift_Next P
  has : Has P id [] (c_slices_breakPatternsCmpFunc_Entry slices_nextPowerOfTwo.id slices_xorshift_Next.id)

def c_slices_order2CmpFunc_Entry : AFunc := ⟨32, [.tmp 10, .tmp 11],
  (.seq
  (.region [
    ⟨(some 10), .move (.c (.int .i64 0)), none⟩,
    ⟨(some 11), .move (.c (.int .i64 0)), none⟩])
  (.seq
  (.seq
  (.draw [
    (⟨(some 12), .move (.t 4), none⟩, []),
    (⟨(some 13), .move (.t 0), none⟩, []),
    (⟨(some 14), .move (.t 2), none⟩, []),
    (⟨(some 15), .indexAddr 2 (.t 13) (.t 14), none⟩, []),
    (⟨(some 16), .load true 2 (.t 15), none⟩, []),
    (⟨(some 17), .move (.t 0), none⟩, []),
    (⟨(some 18), .move (.t 1), none⟩, []),
    (⟨(some 19), .indexAddr 2 (.t 17) (.t 18), none⟩, []),
    (⟨(some 20), .load true 2 (.t 19), none⟩, []),
    (⟨(some 21), .callv (.t 12) [(.t 16), (.t 20)], none⟩, []),
    (⟨(some 22), .bin .lss (.t 21) (.c (.int .i64 0)), none⟩, [])])
  (.cond (.t 22)
    (.seq
    (.region [
      ⟨(some 23), .move (.t 3), none⟩,
      ⟨(some 24), .nop (.t 23), none⟩,
      ⟨(some 25), .load false 1 (.t 24), none⟩,
      ⟨(some 26), .bin .add (.t 25) (.c (.int .i64 1)), none⟩,
      ⟨(some 27), .nop (.t 23), none⟩,
      ⟨none, .store 1 (.t 27) (.t 26), none⟩])
    (.seq
    (.region [
      ⟨(some 28), .move (.t 2), none⟩,
      ⟨(some 29), .move (.t 1), none⟩,
      ⟨(some 10), .move (.t 28), none⟩,
      ⟨(some 11), .move (.t 29), none⟩])
    .ret))
    .skip))
  (.seq
  (.region [
    ⟨(some 30), .move (.t 1), none⟩,
    ⟨(some 31), .move (.t 2), none⟩,
    ⟨(some 10), .move (.t 30), none⟩,
    ⟨(some 11), .move (.t 31), none⟩])
  .ret)))⟩

structure F_slices_order2CmpFunc_Entry (P : Program) where
  id : FuncId
  has : Has P id [] c_slices_order2CmpFunc_Entry

def c_slices_medianCmpFunc_Entry (f_slices_order2CmpFunc_Entry : FuncId) : AFunc := ⟨41, [.tmp 12],
  (.seq
  (.region [
    ⟨(some 12), .move (.c (.int .i64 0)), none⟩])
  (.seq
  (.region [
    ⟨(some 14), .move (.t 0), none⟩,
    ⟨(some 15), .move (.t 1), none⟩,
    ⟨(some 16), .move (.t 2), none⟩,
    ⟨(some 17), .move (.t 4), none⟩,
    ⟨(some 18), .move (.t 5), none⟩,
    ⟨(some 19), .call f_slices_order2CmpFunc_Entry [(.t 14), (.t 15), (.t 16), (.t 17), (.t 18)], none⟩,
    ⟨(some 13), .move (.t 19), none⟩,
    ⟨(some 20), .extract (.t 13) 0, none⟩,
    ⟨(some 21), .extract (.t 13) 1, none⟩,
    ⟨(some 1), .move (.t 20), none⟩,
    ⟨(some 2), .move (.t 21), none⟩])
  (.seq
  (.region [
    ⟨(some 23), .move (.t 0), none⟩,
    ⟨(some 24), .move (.t 2), none⟩,
    ⟨(some 25), .move (.t 3), none⟩,
    ⟨(some 26), .move (.t 4), none⟩,
    ⟨(some 27), .move (.t 5), none⟩,
    ⟨(some 28), .call f_slices_order2CmpFunc_Entry [(.t 23), (.t 24), (.t 25), (.t 26), (.t 27)], none⟩,
    ⟨(some 22), .move (.t 28), none⟩,
    ⟨(some 29), .extract (.t 22) 0, none⟩,
    ⟨(some 30), .extract (.t 22) 1, none⟩,
    ⟨(some 2), .move (.t 29), none⟩,
    ⟨(some 3), .move (.t 30), none⟩])
  (.seq
  (.region [
    ⟨(some 32), .move (.t 0), none⟩,
    ⟨(some 33), .move (.t 1), none⟩,
    ⟨(some 34), .move (.t 2), none⟩,
    ⟨(some 35), .move (.t 4), none⟩,
    ⟨(some 36), .move (.t 5), none⟩,
    ⟨(some 37), .call f_slices_order2CmpFunc_Entry [(.t 32), (.t 33), (.t 34), (.t 35), (.t 36)], none⟩,
    ⟨(some 31), .move (.t 37), none⟩,
    ⟨(some 38), .extract (.t 31) 0, none⟩,
    ⟨(some 39), .extract (.t 31) 1, none⟩,
    ⟨(some 1), .move (.t 38), none⟩,
    ⟨(some 2), .move (.t 39), none⟩])
  (.seq
  (.region [
    ⟨(some 40), .move (.t 2), none⟩,
    ⟨(some 12), .move (.t 40), none⟩])
  .ret)))))⟩

structure F_slices_medianCmpFunc_Entry (P : Program) where
  id : FuncId
  slices_order2CmpFunc_Entry : F_slices_order2CmpFunc_Entry P
  has : Has P id [] (c_slices_medianCmpFunc_Entry slices_order2CmpFunc_Entry.id)

def c_slices_medianAdjacentCmpFunc_Entry (f_slices_medianCmpFunc_Entry : FuncId) : AFunc := ⟨18, [.tmp 8],
  (.seq
  (.region [
    ⟨(some 8), .move (.c (.int .i64 0)), none⟩])
  (.seq
  (.region [
    ⟨(some 9), .move (.t 0), none⟩,
    ⟨(some 10), .move (.t 1), none⟩,
    ⟨(some 11), .bin .sub (.t 10) (.c (.int .i64 1)), none⟩,
    ⟨(some 12), .move (.t 1), none⟩,
    ⟨(some 13), .move (.t 1), none⟩,
    ⟨(some 14), .bin .add (.t 13) (.c (.int .i64 1)), none⟩,
    ⟨(some 15), .move (.t 2), none⟩,
    ⟨(some 16), .move (.t 3), none⟩,
    ⟨(some 17), .call f_slices_medianCmpFunc_Entry [(.t 9), (.t 11), (.t 12), (.t 14), (.t 15), (.t 16)], none⟩,
    ⟨(some 8), .move (.t 17), none⟩])
  .ret))⟩

structure F_slices_medianAdjacentCmpFunc_Entry (P : Program) where
  id : FuncId
  slices_medianCmpFunc_Entry : F_slices_medianCmpFunc_Entry P
  has : Has P id [] (c_slices_medianAdjacentCmpFunc_Entry slices_medianCmpFunc_Entry.id)

def c_slices_choosePivotCmpFunc_Entry (f_slices_medianAdjacentCmpFunc_Entry : FuncId) (f_slices_medianCmpFunc_Entry : FuncId) : AFunc := ⟨63, [.tmp 8, .tmp 9],
  (.seq
  (.region [
    ⟨(some 8), .move (.c (.int .i64 0)), none⟩,
    ⟨(some 9), .move (.c (.int .i64 0)), none⟩])
  (.seq
  (.region [
    ⟨(some 15), .move (.t 2), none⟩,
    ⟨(some 16), .move (.t 1), none⟩,
    ⟨(some 17), .bin .sub (.t 15) (.t 16), none⟩,
    ⟨(some 10), .move (.t 17), none⟩])
  (.seq
  (.region [
    ⟨(some 11), .alloc [(.int .i64 0)], none⟩])
  (.seq
  (.region [
    ⟨(some 18), .move (.t 1), none⟩,
    ⟨(some 19), .move (.t 10), none⟩,
    ⟨(some 20), .bin .quo (.t 19) (.c (.int .i64 4)), none⟩,
    ⟨(some 21), .bin .mul (.t 20) (.c (.int .i64 1)), none⟩,
    ⟨(some 22), .bin .add (.t 18) (.t 21), none⟩,
    ⟨(some 12), .move (.t 22), none⟩])
  (.seq
  (.region [
    ⟨(some 23), .move (.t 1), none⟩,
    ⟨(some 24), .move (.t 10), none⟩,
    ⟨(some 25), .bin .quo (.t 24) (.c (.int .i64 4)), none⟩,
    ⟨(some 26), .bin .mul (.t 25) (.c (.int .i64 2)), none⟩,
    ⟨(some 27), .bin .add (.t 23) (.t 26), none⟩,
    ⟨(some 13), .move (.t 27), none⟩])
  (.seq
  (.region [
    ⟨(some 28), .move (.t 1), none⟩,
    ⟨(some 29), .move (.t 10), none⟩,
    ⟨(some 30), .bin .quo (.t 29) (.c (.int .i64 4)), none⟩,
    ⟨(some 31), .bin .mul (.t 30) (.c (.int .i64 3)), none⟩,
    ⟨(some 32), .bin .add (.t 28) (.t 31), none⟩,
    ⟨(some 14), .move (.t 32), none⟩])
  (.seq
  (.seq
  (.region [
    ⟨(some 33), .move (.t 10), none⟩,
    ⟨(some 34), .bin .geq (.t 33) (.c (.int .i64 8)), none⟩])
  (.cond (.t 34)
    (.seq
    (.seq
    (.region [
      ⟨(some 35), .move (.t 10), none⟩,
      ⟨(some 36), .bin .geq (.t 35) (.c (.int .i64 50)), none⟩])
    (.cond (.t 36)
      (.seq
      (.region [
        ⟨(some 37), .move (.t 0), none⟩,
        ⟨(some 38), .move (.t 12), none⟩,
        ⟨(some 39), .move (.t 3), none⟩,
        ⟨(some 40), .call f_slices_medianAdjacentCmpFunc_Entry [(.t 37), (.t 38), (.t 11), (.t 39)], none⟩,
        ⟨(some 12), .move (.t 40), none⟩])
      (.seq
      (.region [
        ⟨(some 41), .move (.t 0), none⟩,
        ⟨(some 42), .move (.t 13), none⟩,
        ⟨(some 43), .move (.t 3), none⟩,
        ⟨(some 44), .call f_slices_medianAdjacentCmpFunc_Entry [(.t 41), (.t 42), (.t 11), (.t 43)], none⟩,
        ⟨(some 13), .move (.t 44), none⟩])
      (.region [
        ⟨(some 45), .move (.t 0), none⟩,
        ⟨(some 46), .move (.t 14), none⟩,
        ⟨(some 47), .move (.t 3), none⟩,
        ⟨(some 48), .call f_slices_medianAdjacentCmpFunc_Entry [(.t 45), (.t 46), (.t 11), (.t 47)], none⟩,
        ⟨(some 14), .move (.t 48), none⟩])))
      .skip))
    (.region [
      ⟨(some 49), .move (.t 0), none⟩,
      ⟨(some 50), .move (.t 12), none⟩,
      ⟨(some 51), .move (.t 13), none⟩,
      ⟨(some 52), .move (.t 14), none⟩,
      ⟨(some 53), .move (.t 3), none⟩,
      ⟨(some 54), .call f_slices_medianCmpFunc_Entry [(.t 49), (.t 50), (.t 51), (.t 52), (.t 11), (.t 53)], none⟩,
      ⟨(some 13), .move (.t 54), none⟩]))
    .skip))
  (.seq
  (.region [
    ⟨(some 55), .load false 1 (.t 11), none⟩])
  (.block 0
    (.seq
    (.region [
      ⟨(some 58), .bin .eql (.t 55) (.c (.int .i64 0)), none⟩,
      ⟨(some 57), .move (.t 58), none⟩])
    (.cond (.t 57)
      (.seq
      (.region [
        ⟨(some 59), .move (.t 13), none⟩,
        ⟨(some 8), .move (.t 59), none⟩,
        ⟨(some 9), .move (.c (.int .i64 1)), none⟩])
      .ret)
      (.seq
      (.region [
        ⟨(some 61), .bin .eql (.t 55) (.c (.int .i64 12)), none⟩,
        ⟨(some 60), .move (.t 61), none⟩])
      (.cond (.t 60)
        (.seq
        (.region [
          ⟨(some 62), .move (.t 13), none⟩,
          ⟨(some 8), .move (.t 62), none⟩,
          ⟨(some 9), .move (.c (.int .i64 2)), none⟩])
        .ret)
        (.seq
        (.region [
          ⟨(some 56), .move (.t 13), none⟩,
          ⟨(some 8), .move (.t 56), none⟩,
          ⟨(some 9), .move (.c (.int .i64 0)), none⟩])
        .ret))))))))))))))⟩

structure F_slices_choosePivotCmpFunc_Entry (P : Program) where
  id : FuncId
  slices_medianAdjacentCmpFunc_Entry : F_slices_medianAdjacentCmpFunc_Entry P
  slices_medianCmpFunc_Entry : F_slices_medianCmpFunc_Entry P
  has : Has P id [] (c_slices_choosePivotCmpFunc_Entry slices_medianAdjacentCmpFunc_Entry.id slices_medianCmpFunc_Entry.id)

def c_slices_reverseRangeCmpFunc_Entry : AFunc := ⟨34, [],
  (.seq
  (.region [
    ⟨(some 10), .move (.t 1), none⟩,
    ⟨(some 8), .move (.t 10), none⟩])
  (.seq
  (.region [
    ⟨(some 11), .move (.t 2), none⟩,
    ⟨(some 12), .bin .sub (.t 11) (.c (.int .i64 1)), none⟩,
    ⟨(some 9), .move (.t 12), none⟩])
  (.block 0
    (.loop
      (.seq
      (.seq
      (.region [
        ⟨(some 13), .move (.t 8), none⟩,
        ⟨(some 14), .move (.t 9), none⟩,
        ⟨(some 15), .bin .lss (.t 13) (.t 14), none⟩])
      (.cond (.t 15)
        .skip
        (.exit 0)))
      (.block 1
        (.seq
        (.draw [
          (⟨(some 16), .move (.t 0), none⟩, []),
          (⟨(some 17), .move (.t 8), none⟩, []),
          (⟨(some 18), .move (.t 0), none⟩, []),
          (⟨(some 19), .move (.t 9), none⟩, []),
          (⟨(some 20), .move (.t 0), none⟩, []),
          (⟨(some 21), .move (.t 9), none⟩, []),
          (⟨(some 22), .indexAddr 2 (.t 20) (.t 21), none⟩, []),
          (⟨(some 23), .load true 2 (.t 22), none⟩, []),
          (⟨(some 24), .move (.t 0), none⟩, []),
          (⟨(some 25), .move (.t 8), none⟩, []),
          (⟨(some 26), .indexAddr 2 (.t 24) (.t 25), none⟩, []),
          (⟨(some 27), .load true 2 (.t 26), none⟩, []),
          (⟨(some 28), .indexAddr 2 (.t 16) (.t 17), none⟩, []),
          (⟨none, .store 2 (.t 28) (.t 23), none⟩, []),
          (⟨(some 29), .indexAddr 2 (.t 18) (.t 19), none⟩, []),
          (⟨none, .store 2 (.t 29) (.t 27), none⟩, [])])
        (.seq
        (.region [
          ⟨(some 30), .move (.t 8), none⟩,
          ⟨(some 31), .bin .add (.t 30) (.c (.int .i64 1)), none⟩,
          ⟨(some 8), .move (.t 31), none⟩])
        (.region [
          ⟨(some 32), .move (.t 9), none⟩,
          ⟨(some 33), .bin .sub (.t 32) (.c (.int .i64 1)), none⟩,
          ⟨(some 9), .move (.t 33), none⟩])))))))))⟩

structure F_slices_reverseRangeCmpFunc_Entry (P : Program) where
  id : FuncId
  has : Has P id [] c_slices_reverseRangeCmpFunc_Entry

def c_slices_partialInsertionSortCmpFunc_Entry : AFunc := ⟨141, [.tmp 8],
  (.seq
  (.region [
    ⟨(some 8), .move (.c (.bool false)), none⟩])
  (.seq
  (.region [
    ⟨(some 13), .move (.t 1), none⟩,
    ⟨(some 14), .bin .add (.t 13) (.c (.int .i64 1)), none⟩,
    ⟨(some 9), .move (.t 14), none⟩])
  (.seq
  (.seq
  (.region [
    ⟨(some 10), .move (.c (.int .i64 0)), none⟩])
  (.block 0
    (.loop
      (.seq
      (.seq
      (.region [
        ⟨(some 15), .move (.t 10), none⟩,
        ⟨(some 16), .bin .lss (.t 15) (.c (.int .i64 5)), none⟩])
      (.cond (.t 16)
        .skip
        (.exit 0)))
      (.seq
      (.block 1
        (.seq
        (.block 2
          (.loop
            (.seq
            (.seq
            (.draw [
              (⟨(some 19), .move (.t 9), none⟩, []),
              (⟨(some 20), .move (.t 2), none⟩, []),
              (⟨(some 21), .bin .lss (.t 19) (.t 20), none⟩, []),
              (⟨(some 22), .move (.t 21), none⟩, []),
              (⟨(some 23), .move (.t 3), some (some 22, true)⟩, []),
              (⟨(some 24), .move (.t 0), some (some 22, true)⟩, []),
              (⟨(some 25), .move (.t 9), some (some 22, true)⟩, []),
              (⟨(some 26), .indexAddr 2 (.t 24) (.t 25), some (some 22, true)⟩, []),
              (⟨(some 27), .load true 2 (.t 26), some (some 22, true)⟩, []),
              (⟨(some 28), .move (.t 0), some (some 22, true)⟩, []),
              (⟨(some 29), .move (.t 9), some (some 22, true)⟩, []),
              (⟨(some 30), .bin .sub (.t 29) (.c (.int .i64 1)), some (some 22, true)⟩, []),
              (⟨(some 31), .indexAddr 2 (.t 28) (.t 30), some (some 22, true)⟩, []),
              (⟨(some 32), .load true 2 (.t 31), some (some 22, true)⟩, []),
              (⟨(some 33), .callv (.t 23) [(.t 27), (.t 32)], some (some 22, true)⟩, []),
              (⟨(some 34), .bin .lss (.t 33) (.c (.int .i64 0)), some (some 22, true)⟩, []),
              (⟨(some 35), .un .not (.t 34), some (some 22, true)⟩, []),
              (⟨(some 36), .pick (.t 22) (.t 35) (.c (.bool false)), none⟩, [])])
            (.cond (.t 36)
              .skip
              (.exit 2)))
            (.block 3
              (.region [
                ⟨(some 37), .move (.t 9), none⟩,
                ⟨(some 38), .bin .add (.t 37) (.c (.int .i64 1)), none⟩,
                ⟨(some 9), .move (.t 38), none⟩])))))
        (.seq
        (.seq
        (.region [
          ⟨(some 39), .move (.t 9), none⟩,
          ⟨(some 40), .move (.t 2), none⟩,
          ⟨(some 41), .bin .eql (.t 39) (.t 40), none⟩])
        (.cond (.t 41)
          (.seq
          (.region [
            ⟨(some 8), .move (.c (.bool true)), none⟩])
          .ret)
          .skip))
        (.seq
        (.seq
        (.region [
          ⟨(some 42), .move (.t 2), none⟩,
          ⟨(some 43), .move (.t 1), none⟩,
          ⟨(some 44), .bin .sub (.t 42) (.t 43), none⟩,
          ⟨(some 45), .bin .lss (.t 44) (.c (.int .i64 50)), none⟩])
        (.cond (.t 45)
          (.seq
          (.region [
            ⟨(some 8), .move (.c (.bool false)), none⟩])
          .ret)
          .skip))
        (.seq
        (.draw [
          (⟨(some 46), .move (.t 0), none⟩, []),
          (⟨(some 47), .move (.t 9), none⟩, []),
          (⟨(some 48), .move (.t 0), none⟩, []),
          (⟨(some 49), .move (.t 9), none⟩, []),
          (⟨(some 50), .bin .sub (.t 49) (.c (.int .i64 1)), none⟩, []),
          (⟨(some 51), .move (.t 0), none⟩, []),
          (⟨(some 52), .move (.t 9), none⟩, []),
          (⟨(some 53), .bin .sub (.t 52) (.c (.int .i64 1)), none⟩, []),
          (⟨(some 54), .indexAddr 2 (.t 51) (.t 53), none⟩, []),
          (⟨(some 55), .load true 2 (.t 54), none⟩, []),
          (⟨(some 56), .move (.t 0), none⟩, []),
          (⟨(some 57), .move (.t 9), none⟩, []),
          (⟨(some 58), .indexAddr 2 (.t 56) (.t 57), none⟩, []),
          (⟨(some 59), .load true 2 (.t 58), none⟩, []),
          (⟨(some 60), .indexAddr 2 (.t 46) (.t 47), none⟩, []),
          (⟨none, .store 2 (.t 60) (.t 55), none⟩, []),
          (⟨(some 61), .indexAddr 2 (.t 48) (.t 50), none⟩, []),
          (⟨none, .store 2 (.t 61) (.t 59), none⟩, [])])
        (.seq
        (.seq
        (.region [
          ⟨(some 62), .move (.t 9), none⟩,
          ⟨(some 63), .move (.t 1), none⟩,
          ⟨(some 64), .bin .sub (.t 62) (.t 63), none⟩,
          ⟨(some 65), .bin .geq (.t 64) (.c (.int .i64 2)), none⟩])
        (.cond (.t 65)
          (.seq
          (.region [
            ⟨(some 66), .move (.t 9), none⟩,
            ⟨(some 67), .bin .sub (.t 66) (.c (.int .i64 1)), none⟩,
            ⟨(some 11), .move (.t 67), none⟩])
          (.block 4
            (.loop
              (.seq
              (.seq
              (.region [
                ⟨(some 68), .move (.t 11), none⟩,
                ⟨(some 69), .bin .geq (.t 68) (.c (.int .i64 1)), none⟩])
              (.cond (.t 69)
                .skip
                (.exit 4)))
              (.seq
              (.block 5
                (.seq
                (.seq
                (.draw [
                  (⟨(some 72), .move (.t 3), none⟩, []),
                  (⟨(some 73), .move (.t 0), none⟩, []),
                  (⟨(some 74), .move (.t 11), none⟩, []),
                  (⟨(some 75), .indexAddr 2 (.t 73) (.t 74), none⟩, []),
                  (⟨(some 76), .load true 2 (.t 75), none⟩, []),
                  (⟨(some 77), .move (.t 0), none⟩, []),
                  (⟨(some 78), .move (.t 11), none⟩, []),
                  (⟨(some 79), .bin .sub (.t 78) (.c (.int .i64 1)), none⟩, []),
                  (⟨(some 80), .indexAddr 2 (.t 77) (.t 79), none⟩, []),
                  (⟨(some 81), .load true 2 (.t 80), none⟩, []),
                  (⟨(some 82), .callv (.t 72) [(.t 76), (.t 81)], none⟩, []),
                  (⟨(some 83), .bin .lss (.t 82) (.c (.int .i64 0)), none⟩, []),
                  (⟨(some 84), .un .not (.t 83), none⟩, [])])
                (.cond (.t 84)
                  (.exit 4)
                  .skip))
                (.draw [
                  (⟨(some 85), .move (.t 0), none⟩, []),
                  (⟨(some 86), .move (.t 11), none⟩, []),
                  (⟨(some 87), .move (.t 0), none⟩, []),
                  (⟨(some 88), .move (.t 11), none⟩, []),
                  (⟨(some 89), .bin .sub (.t 88) (.c (.int .i64 1)), none⟩, []),
                  (⟨(some 90), .move (.t 0), none⟩, []),
                  (⟨(some 91), .move (.t 11), none⟩, []),
                  (⟨(some 92), .bin .sub (.t 91) (.c (.int .i64 1)), none⟩, []),
                  (⟨(some 93), .indexAddr 2 (.t 90) (.t 92), none⟩, []),
                  (⟨(some 94), .load true 2 (.t 93), none⟩, []),
                  (⟨(some 95), .move (.t 0), none⟩, []),
                  (⟨(some 96), .move (.t 11), none⟩, []),
                  (⟨(some 97), .indexAddr 2 (.t 95) (.t 96), none⟩, []),
                  (⟨(some 98), .load true 2 (.t 97), none⟩, []),
                  (⟨(some 99), .indexAddr 2 (.t 85) (.t 86), none⟩, []),
                  (⟨none, .store 2 (.t 99) (.t 94), none⟩, []),
                  (⟨(some 100), .indexAddr 2 (.t 87) (.t 89), none⟩, []),
                  (⟨none, .store 2 (.t 100) (.t 98), none⟩, [])])))
              (.region [
                ⟨(some 70), .move (.t 11), none⟩,
                ⟨(some 71), .bin .sub (.t 70) (.c (.int .i64 1)), none⟩,
                ⟨(some 11), .move (.t 71), none⟩]))))))
          .skip))
        (.seq
        (.region [
          ⟨(some 101), .move (.t 2), none⟩,
          ⟨(some 102), .move (.t 9), none⟩,
          ⟨(some 103), .bin .sub (.t 101) (.t 102), none⟩,
          ⟨(some 104), .bin .geq (.t 103) (.c (.int .i64 2)), none⟩])
        (.cond (.t 104)
          (.seq
          (.region [
            ⟨(some 105), .move (.t 9), none⟩,
            ⟨(some 106), .bin .add (.t 105) (.c (.int .i64 1)), none⟩,
            ⟨(some 12), .move (.t 106), none⟩])
          (.block 6
            (.loop
              (.seq
              (.seq
              (.region [
                ⟨(some 107), .move (.t 12), none⟩,
                ⟨(some 108), .move (.t 2), none⟩,
                ⟨(some 109), .bin .lss (.t 107) (.t 108), none⟩])
              (.cond (.t 109)
                .skip
                (.exit 6)))
              (.seq
              (.block 7
                (.seq
                (.seq
                (.draw [
                  (⟨(some 112), .move (.t 3), none⟩, []),
                  (⟨(some 113), .move (.t 0), none⟩, []),
                  (⟨(some 114), .move (.t 12), none⟩, []),
                  (⟨(some 115), .indexAddr 2 (.t 113) (.t 114), none⟩, []),
                  (⟨(some 116), .load true 2 (.t 115), none⟩, []),
                  (⟨(some 117), .move (.t 0), none⟩, []),
                  (⟨(some 118), .move (.t 12), none⟩, []),
                  (⟨(some 119), .bin .sub (.t 118) (.c (.int .i64 1)), none⟩, []),
                  (⟨(some 120), .indexAddr 2 (.t 117) (.t 119), none⟩, []),
                  (⟨(some 121), .load true 2 (.t 120), none⟩, []),
                  (⟨(some 122), .callv (.t 112) [(.t 116), (.t 121)], none⟩, []),
                  (⟨(some 123), .bin .lss (.t 122) (.c (.int .i64 0)), none⟩, []),
                  (⟨(some 124), .un .not (.t 123), none⟩, [])])
                (.cond (.t 124)
                  (.exit 6)
                  .skip))
                (.draw [
                  (⟨(some 125), .move (.t 0), none⟩, []),
                  (⟨(some 126), .move (.t 12), none⟩, []),
                  (⟨(some 127), .move (.t 0), none⟩, []),
                  (⟨(some 128), .move (.t 12), none⟩, []),
                  (⟨(some 129), .bin .sub (.t 128) (.c (.int .i64 1)), none⟩, []),
                  (⟨(some 130), .move (.t 0), none⟩, []),
                  (⟨(some 131), .move (.t 12), none⟩, []),
                  (⟨(some 132), .bin .sub (.t 131) (.c (.int .i64 1)), none⟩, []),
                  (⟨(some 133), .indexAddr 2 (.t 130) (.t 132), none⟩, []),
                  (⟨(some 134), .load true 2 (.t 133), none⟩, []),
                  (⟨(some 135), .move (.t 0), none⟩, []),
                  (⟨(some 136), .move (.t 12), none⟩, []),
                  (⟨(some 137), .indexAddr 2 (.t 135) (.t 136), none⟩, []),
                  (⟨(some 138), .load true 2 (.t 137), none⟩, []),
                  (⟨(some 139), .indexAddr 2 (.t 125) (.t 126), none⟩, []),
                  (⟨none, .store 2 (.t 139) (.t 134), none⟩, []),
                  (⟨(some 140), .indexAddr 2 (.t 127) (.t 129), none⟩, []),
                  (⟨none, .store 2 (.t 140) (.t 138), none⟩, [])])))
              (.region [
                ⟨(some 110), .move (.t 12), none⟩,
                ⟨(some 111), .bin .add (.t 110) (.c (.int .i64 1)), none⟩,
                ⟨(some 12), .move (.t 111), none⟩]))))))
          .skip))))))))
      (.region [
        ⟨(some 17), .move (.t 10), none⟩,
        ⟨(some 18), .bin .add (.t 17) (.c (.int .i64 1)), none⟩,
        ⟨(some 10), .move (.t 18), none⟩]))))))
  (.seq
  (.region [
    ⟨(some 8), .move (.c (.bool false)), none⟩])
  .ret))))⟩

structure F_slices_partialInsertionSortCmpFunc_Entry (P : Program) where
  id : FuncId
  has : Has P id [] c_slices_partialInsertionSortCmpFunc_Entry

def c_slices_partitionEqualCmpFunc_Entry : AFunc := ⟨90, [.tmp 10],
  (.seq
  (.region [
    ⟨(some 10), .move (.c (.int .i64 0)), none⟩])
  (.seq
  (.draw [
    (⟨(some 13), .move (.t 0), none⟩, []),
    (⟨(some 14), .move (.t 1), none⟩, []),
    (⟨(some 15), .move (.t 0), none⟩, []),
    (⟨(some 16), .move (.t 3), none⟩, []),
    (⟨(some 17), .move (.t 0), none⟩, []),
    (⟨(some 18), .move (.t 3), none⟩, []),
    (⟨(some 19), .indexAddr 2 (.t 17) (.t 18), none⟩, []),
    (⟨(some 20), .load true 2 (.t 19), none⟩, []),
    (⟨(some 21), .move (.t 0), none⟩, []),
    (⟨(some 22), .move (.t 1), none⟩, []),
    (⟨(some 23), .indexAddr 2 (.t 21) (.t 22), none⟩, []),
    (⟨(some 24), .load true 2 (.t 23), none⟩, []),
    (⟨(some 25), .indexAddr 2 (.t 13) (.t 14), none⟩, []),
    (⟨none, .store 2 (.t 25) (.t 20), none⟩, []),
    (⟨(some 26), .indexAddr 2 (.t 15) (.t 16), none⟩, []),
    (⟨none, .store 2 (.t 26) (.t 24), none⟩, [])])
  (.seq
  (.region [
    ⟨(some 27), .move (.t 1), none⟩,
    ⟨(some 28), .bin .add (.t 27) (.c (.int .i64 1)), none⟩,
    ⟨(some 29), .move (.t 2), none⟩,
    ⟨(some 30), .bin .sub (.t 29) (.c (.int .i64 1)), none⟩,
    ⟨(some 11), .move (.t 28), none⟩,
    ⟨(some 12), .move (.t 30), none⟩])
  (.seq
  (.block 0
    (.loop
      (.block 1
        (.seq
        (.block 2
          (.loop
            (.seq
            (.seq
            (.draw [
              (⟨(some 31), .move (.t 11), none⟩, []),
              (⟨(some 32), .move (.t 12), none⟩, []),
              (⟨(some 33), .bin .leq (.t 31) (.t 32), none⟩, []),
              (⟨(some 34), .move (.t 33), none⟩, []),
              (⟨(some 35), .move (.t 4), some (some 34, true)⟩, []),
              (⟨(some 36), .move (.t 0), some (some 34, true)⟩, []),
              (⟨(some 37), .move (.t 1), some (some 34, true)⟩, []),
              (⟨(some 38), .indexAddr 2 (.t 36) (.t 37), some (some 34, true)⟩, []),
              (⟨(some 39), .load true 2 (.t 38), some (some 34, true)⟩, []),
              (⟨(some 40), .move (.t 0), some (some 34, true)⟩, []),
              (⟨(some 41), .move (.t 11), some (some 34, true)⟩, []),
              (⟨(some 42), .indexAddr 2 (.t 40) (.t 41), some (some 34, true)⟩, []),
              (⟨(some 43), .load true 2 (.t 42), some (some 34, true)⟩, []),
              (⟨(some 44), .callv (.t 35) [(.t 39), (.t 43)], some (some 34, true)⟩, []),
              (⟨(some 45), .bin .lss (.t 44) (.c (.int .i64 0)), some (some 34, true)⟩, []),
              (⟨(some 46), .un .not (.t 45), some (some 34, true)⟩, []),
              (⟨(some 47), .pick (.t 34) (.t 46) (.c (.bool false)), none⟩, [])])
            (.cond (.t 47)
              .skip
              (.exit 2)))
            (.block 3
              (.region [
                ⟨(some 48), .move (.t 11), none⟩,
                ⟨(some 49), .bin .add (.t 48) (.c (.int .i64 1)), none⟩,
                ⟨(some 11), .move (.t 49), none⟩])))))
        (.seq
        (.block 4
          (.loop
            (.seq
            (.seq
            (.draw [
              (⟨(some 50), .move (.t 11), none⟩, []),
              (⟨(some 51), .move (.t 12), none⟩, []),
              (⟨(some 52), .bin .leq (.t 50) (.t 51), none⟩, []),
              (⟨(some 53), .move (.t 52), none⟩, []),
              (⟨(some 54), .move (.t 4), some (some 53, true)⟩, []),
              (⟨(some 55), .move (.t 0), some (some 53, true)⟩, []),
              (⟨(some 56), .move (.t 1), some (some 53, true)⟩, []),
              (⟨(some 57), .indexAddr 2 (.t 55) (.t 56), some (some 53, true)⟩, []),
              (⟨(some 58), .load true 2 (.t 57), some (some 53, true)⟩, []),
              (⟨(some 59), .move (.t 0), some (some 53, true)⟩, []),
              (⟨(some 60), .move (.t 12), some (some 53, true)⟩, []),
              (⟨(some 61), .indexAddr 2 (.t 59) (.t 60), some (some 53, true)⟩, []),
              (⟨(some 62), .load true 2 (.t 61), some (some 53, true)⟩, []),
              (⟨(some 63), .callv (.t 54) [(.t 58), (.t 62)], some (some 53, true)⟩, []),
              (⟨(some 64), .bin .lss (.t 63) (.c (.int .i64 0)), some (some 53, true)⟩, []),
              (⟨(some 65), .pick (.t 53) (.t 64) (.c (.bool false)), none⟩, [])])
            (.cond (.t 65)
              .skip
              (.exit 4)))
            (.block 5
              (.region [
                ⟨(some 66), .move (.t 12), none⟩,
                ⟨(some 67), .bin .sub (.t 66) (.c (.int .i64 1)), none⟩,
                ⟨(some 12), .move (.t 67), none⟩])))))
        (.seq
        (.seq
        (.region [
          ⟨(some 68), .move (.t 11), none⟩,
          ⟨(some 69), .move (.t 12), none⟩,
          ⟨(some 70), .bin .gtr (.t 68) (.t 69), none⟩])
        (.cond (.t 70)
          (.exit 0)
          .skip))
        (.seq
        (.draw [
          (⟨(some 71), .move (.t 0), none⟩, []),
          (⟨(some 72), .move (.t 11), none⟩, []),
          (⟨(some 73), .move (.t 0), none⟩, []),
          (⟨(some 74), .move (.t 12), none⟩, []),
          (⟨(some 75), .move (.t 0), none⟩, []),
          (⟨(some 76), .move (.t 12), none⟩, []),
          (⟨(some 77), .indexAddr 2 (.t 75) (.t 76), none⟩, []),
          (⟨(some 78), .load true 2 (.t 77), none⟩, []),
          (⟨(some 79), .move (.t 0), none⟩, []),
          (⟨(some 80), .move (.t 11), none⟩, []),
          (⟨(some 81), .indexAddr 2 (.t 79) (.t 80), none⟩, []),
          (⟨(some 82), .load true 2 (.t 81), none⟩, []),
          (⟨(some 83), .indexAddr 2 (.t 71) (.t 72), none⟩, []),
          (⟨none, .store 2 (.t 83) (.t 78), none⟩, []),
          (⟨(some 84), .indexAddr 2 (.t 73) (.t 74), none⟩, []),
          (⟨none, .store 2 (.t 84) (.t 82), none⟩, [])])
        (.seq
        (.region [
          ⟨(some 85), .move (.t 11), none⟩,
          ⟨(some 86), .bin .add (.t 85) (.c (.int .i64 1)), none⟩,
          ⟨(some 11), .move (.t 86), none⟩])
        (.region [
          ⟨(some 87), .move (.t 12), none⟩,
          ⟨(some 88), .bin .sub (.t 87) (.c (.int .i64 1)), none⟩,
          ⟨(some 12), .move (.t 88), none⟩])))))))))
  (.seq
  (.region [
    ⟨(some 89), .move (.t 11), none⟩,
    ⟨(some 10), .move (.t 89), none⟩])
  .ret)))))⟩

structure F_slices_partitionEqualCmpFunc_Entry (P : Program) where
  id : FuncId
  has : Has P id [] c_slices_partitionEqualCmpFunc_Entry

def c_slices_partitionCmpFunc_Entry : AFunc := ⟨178, [.tmp 10, .tmp 11],
  (.seq
  (.region [
    ⟨(some 10), .move (.c (.int .i64 0)), none⟩,
    ⟨(some 11), .move (.c (.bool false)), none⟩])
  (.seq
  (.draw [
    (⟨(some 14), .move (.t 0), none⟩, []),
    (⟨(some 15), .move (.t 1), none⟩, []),
    (⟨(some 16), .move (.t 0), none⟩, []),
    (⟨(some 17), .move (.t 3), none⟩, []),
    (⟨(some 18), .move (.t 0), none⟩, []),
    (⟨(some 19), .move (.t 3), none⟩, []),
    (⟨(some 20), .indexAddr 2 (.t 18) (.t 19), none⟩, []),
    (⟨(some 21), .load true 2 (.t 20), none⟩, []),
    (⟨(some 22), .move (.t 0), none⟩, []),
    (⟨(some 23), .move (.t 1), none⟩, []),
    (⟨(some 24), .indexAddr 2 (.t 22) (.t 23), none⟩, []),
    (⟨(some 25), .load true 2 (.t 24), none⟩, []),
    (⟨(some 26), .indexAddr 2 (.t 14) (.t 15), none⟩, []),
    (⟨none, .store 2 (.t 26) (.t 21), none⟩, []),
    (⟨(some 27), .indexAddr 2 (.t 16) (.t 17), none⟩, []),
    (⟨none, .store 2 (.t 27) (.t 25), none⟩, [])])
  (.seq
  (.region [
    ⟨(some 28), .move (.t 1), none⟩,
    ⟨(some 29), .bin .add (.t 28) (.c (.int .i64 1)), none⟩,
    ⟨(some 30), .move (.t 2), none⟩,
    ⟨(some 31), .bin .sub (.t 30) (.c (.int .i64 1)), none⟩,
    ⟨(some 12), .move (.t 29), none⟩,
    ⟨(some 13), .move (.t 31), none⟩])
  (.seq
  (.block 0
    (.loop
      (.seq
      (.seq
      (.draw [
        (⟨(some 32), .move (.t 12), none⟩, []),
        (⟨(some 33), .move (.t 13), none⟩, []),
        (⟨(some 34), .bin .leq (.t 32) (.t 33), none⟩, []),
        (⟨(some 35), .move (.t 34), none⟩, []),
        (⟨(some 36), .move (.t 4), some (some 35, true)⟩, []),
        (⟨(some 37), .move (.t 0), some (some 35, true)⟩, []),
        (⟨(some 38), .move (.t 12), some (some 35, true)⟩, []),
        (⟨(some 39), .indexAddr 2 (.t 37) (.t 38), some (some 35, true)⟩, []),
        (⟨(some 40), .load true 2 (.t 39), some (some 35, true)⟩, []),
        (⟨(some 41), .move (.t 0), some (some 35, true)⟩, []),
        (⟨(some 42), .move (.t 1), some (some 35, true)⟩, []),
        (⟨(some 43), .indexAddr 2 (.t 41) (.t 42), some (some 35, true)⟩, []),
        (⟨(some 44), .load true 2 (.t 43), some (some 35, true)⟩, []),
        (⟨(some 45), .callv (.t 36) [(.t 40), (.t 44)], some (some 35, true)⟩, []),
        (⟨(some 46), .bin .lss (.t 45) (.c (.int .i64 0)), some (some 35, true)⟩, []),
        (⟨(some 47), .pick (.t 35) (.t 46) (.c (.bool false)), none⟩, [])])
      (.cond (.t 47)
        .skip
        (.exit 0)))
      (.block 1
        (.region [
          ⟨(some 48), .move (.t 12), none⟩,
          ⟨(some 49), .bin .add (.t 48) (.c (.int .i64 1)), none⟩,
          ⟨(some 12), .move (.t 49), none⟩])))))
  (.seq
  (.block 2
    (.loop
      (.seq
      (.seq
      (.draw [
        (⟨(some 50), .move (.t 12), none⟩, []),
        (⟨(some 51), .move (.t 13), none⟩, []),
        (⟨(some 52), .bin .leq (.t 50) (.t 51), none⟩, []),
        (⟨(some 53), .move (.t 52), none⟩, []),
        (⟨(some 54), .move (.t 4), some (some 53, true)⟩, []),
        (⟨(some 55), .move (.t 0), some (some 53, true)⟩, []),
        (⟨(some 56), .move (.t 13), some (some 53, true)⟩, []),
        (⟨(some 57), .indexAddr 2 (.t 55) (.t 56), some (some 53, true)⟩, []),
        (⟨(some 58), .load true 2 (.t 57), some (some 53, true)⟩, []),
        (⟨(some 59), .move (.t 0), some (some 53, true)⟩, []),
        (⟨(some 60), .move (.t 1), some (some 53, true)⟩, []),
        (⟨(some 61), .indexAddr 2 (.t 59) (.t 60), some (some 53, true)⟩, []),
        (⟨(some 62), .load true 2 (.t 61), some (some 53, true)⟩, []),
        (⟨(some 63), .callv (.t 54) [(.t 58), (.t 62)], some (some 53, true)⟩, []),
        (⟨(some 64), .bin .lss (.t 63) (.c (.int .i64 0)), some (some 53, true)⟩, []),
        (⟨(some 65), .un .not (.t 64), some (some 53, true)⟩, []),
        (⟨(some 66), .pick (.t 53) (.t 65) (.c (.bool false)), none⟩, [])])
      (.cond (.t 66)
        .skip
        (.exit 2)))
      (.block 3
        (.region [
          ⟨(some 67), .move (.t 13), none⟩,
          ⟨(some 68), .bin .sub (.t 67) (.c (.int .i64 1)), none⟩,
          ⟨(some 13), .move (.t 68), none⟩])))))
  (.seq
  (.seq
  (.region [
    ⟨(some 69), .move (.t 12), none⟩,
    ⟨(some 70), .move (.t 13), none⟩,
    ⟨(some 71), .bin .gtr (.t 69) (.t 70), none⟩])
  (.cond (.t 71)
    (.seq
    (.draw [
      (⟨(some 72), .move (.t 0), none⟩, []),
      (⟨(some 73), .move (.t 13), none⟩, []),
      (⟨(some 74), .move (.t 0), none⟩, []),
      (⟨(some 75), .move (.t 1), none⟩, []),
      (⟨(some 76), .move (.t 0), none⟩, []),
      (⟨(some 77), .move (.t 1), none⟩, []),
      (⟨(some 78), .indexAddr 2 (.t 76) (.t 77), none⟩, []),
      (⟨(some 79), .load true 2 (.t 78), none⟩, []),
      (⟨(some 80), .move (.t 0), none⟩, []),
      (⟨(some 81), .move (.t 13), none⟩, []),
      (⟨(some 82), .indexAddr 2 (.t 80) (.t 81), none⟩, []),
      (⟨(some 83), .load true 2 (.t 82), none⟩, []),
      (⟨(some 84), .indexAddr 2 (.t 72) (.t 73), none⟩, []),
      (⟨none, .store 2 (.t 84) (.t 79), none⟩, []),
      (⟨(some 85), .indexAddr 2 (.t 74) (.t 75), none⟩, []),
      (⟨none, .store 2 (.t 85) (.t 83), none⟩, [])])
    (.seq
    (.region [
      ⟨(some 86), .move (.t 13), none⟩,
      ⟨(some 10), .move (.t 86), none⟩,
      ⟨(some 11), .move (.c (.bool true)), none⟩])
    .ret))
    .skip))
  (.seq
  (.draw [
    (⟨(some 87), .move (.t 0), none⟩, []),
    (⟨(some 88), .move (.t 12), none⟩, []),
    (⟨(some 89), .move (.t 0), none⟩, []),
    (⟨(some 90), .move (.t 13), none⟩, []),
    (⟨(some 91), .move (.t 0), none⟩, []),
    (⟨(some 92), .move (.t 13), none⟩, []),
    (⟨(some 93), .indexAddr 2 (.t 91) (.t 92), none⟩, []),
    (⟨(some 94), .load true 2 (.t 93), none⟩, []),
    (⟨(some 95), .move (.t 0), none⟩, []),
    (⟨(some 96), .move (.t 12), none⟩, []),
    (⟨(some 97), .indexAddr 2 (.t 95) (.t 96), none⟩, []),
    (⟨(some 98), .load true 2 (.t 97), none⟩, []),
    (⟨(some 99), .indexAddr 2 (.t 87) (.t 88), none⟩, []),
    (⟨none, .store 2 (.t 99) (.t 94), none⟩, []),
    (⟨(some 100), .indexAddr 2 (.t 89) (.t 90), none⟩, []),
    (⟨none, .store 2 (.t 100) (.t 98), none⟩, [])])
  (.seq
  (.region [
    ⟨(some 101), .move (.t 12), none⟩,
    ⟨(some 102), .bin .add (.t 101) (.c (.int .i64 1)), none⟩,
    ⟨(some 12), .move (.t 102), none⟩])
  (.seq
  (.region [
    ⟨(some 103), .move (.t 13), none⟩,
    ⟨(some 104), .bin .sub (.t 103) (.c (.int .i64 1)), none⟩,
    ⟨(some 13), .move (.t 104), none⟩])
  (.seq
  (.block 4
    (.loop
      (.block 5
        (.seq
        (.block 6
          (.loop
            (.seq
            (.seq
            (.draw [
              (⟨(some 105), .move (.t 12), none⟩, []),
              (⟨(some 106), .move (.t 13), none⟩, []),
              (⟨(some 107), .bin .leq (.t 105) (.t 106), none⟩, []),
              (⟨(some 108), .move (.t 107), none⟩, []),
              (⟨(some 109), .move (.t 4), some (some 108, true)⟩, []),
              (⟨(some 110), .move (.t 0), some (some 108, true)⟩, []),
              (⟨(some 111), .move (.t 12), some (some 108, true)⟩, []),
              (⟨(some 112), .indexAddr 2 (.t 110) (.t 111), some (some 108, true)⟩, []),
              (⟨(some 113), .load true 2 (.t 112), some (some 108, true)⟩, []),
              (⟨(some 114), .move (.t 0), some (some 108, true)⟩, []),
              (⟨(some 115), .move (.t 1), some (some 108, true)⟩, []),
              (⟨(some 116), .indexAddr 2 (.t 114) (.t 115), some (some 108, true)⟩, []),
              (⟨(some 117), .load true 2 (.t 116), some (some 108, true)⟩, []),
              (⟨(some 118), .callv (.t 109) [(.t 113), (.t 117)], some (some 108, true)⟩, []),
              (⟨(some 119), .bin .lss (.t 118) (.c (.int .i64 0)), some (some 108, true)⟩, []),
              (⟨(some 120), .pick (.t 108) (.t 119) (.c (.bool false)), none⟩, [])])
            (.cond (.t 120)
              .skip
              (.exit 6)))
            (.block 7
              (.region [
                ⟨(some 121), .move (.t 12), none⟩,
                ⟨(some 122), .bin .add (.t 121) (.c (.int .i64 1)), none⟩,
                ⟨(some 12), .move (.t 122), none⟩])))))
        (.seq
        (.block 8
          (.loop
            (.seq
            (.seq
            (.draw [
              (⟨(some 123), .move (.t 12), none⟩, []),
              (⟨(some 124), .move (.t 13), none⟩, []),
              (⟨(some 125), .bin .leq (.t 123) (.t 124), none⟩, []),
              (⟨(some 126), .move (.t 125), none⟩, []),
              (⟨(some 127), .move (.t 4), some (some 126, true)⟩, []),
              (⟨(some 128), .move (.t 0), some (some 126, true)⟩, []),
              (⟨(some 129), .move (.t 13), some (some 126, true)⟩, []),
              (⟨(some 130), .indexAddr 2 (.t 128) (.t 129), some (some 126, true)⟩, []),
              (⟨(some 131), .load true 2 (.t 130), some (some 126, true)⟩, []),
              (⟨(some 132), .move (.t 0), some (some 126, true)⟩, []),
              (⟨(some 133), .move (.t 1), some (some 126, true)⟩, []),
              (⟨(some 134), .indexAddr 2 (.t 132) (.t 133), some (some 126, true)⟩, []),
              (⟨(some 135), .load true 2 (.t 134), some (some 126, true)⟩, []),
              (⟨(some 136), .callv (.t 127) [(.t 131), (.t 135)], some (some 126, true)⟩, []),
              (⟨(some 137), .bin .lss (.t 136) (.c (.int .i64 0)), some (some 126, true)⟩, []),
              (⟨(some 138), .un .not (.t 137), some (some 126, true)⟩, []),
              (⟨(some 139), .pick (.t 126) (.t 138) (.c (.bool false)), none⟩, [])])
            (.cond (.t 139)
              .skip
              (.exit 8)))
            (.block 9
              (.region [
                ⟨(some 140), .move (.t 13), none⟩,
                ⟨(some 141), .bin .sub (.t 140) (.c (.int .i64 1)), none⟩,
                ⟨(some 13), .move (.t 141), none⟩])))))
        (.seq
        (.seq
        (.region [
          ⟨(some 142), .move (.t 12), none⟩,
          ⟨(some 143), .move (.t 13), none⟩,
          ⟨(some 144), .bin .gtr (.t 142) (.t 143), none⟩])
        (.cond (.t 144)
          (.exit 4)
          .skip))
        (.seq
        (.draw [
          (⟨(some 145), .move (.t 0), none⟩, []),
          (⟨(some 146), .move (.t 12), none⟩, []),
          (⟨(some 147), .move (.t 0), none⟩, []),
          (⟨(some 148), .move (.t 13), none⟩, []),
          (⟨(some 149), .move (.t 0), none⟩, []),
          (⟨(some 150), .move (.t 13), none⟩, []),
          (⟨(some 151), .indexAddr 2 (.t 149) (.t 150), none⟩, []),
          (⟨(some 152), .load true 2 (.t 151), none⟩, []),
          (⟨(some 153), .move (.t 0), none⟩, []),
          (⟨(some 154), .move (.t 12), none⟩, []),
          (⟨(some 155), .indexAddr 2 (.t 153) (.t 154), none⟩, []),
          (⟨(some 156), .load true 2 (.t 155), none⟩, []),
          (⟨(some 157), .indexAddr 2 (.t 145) (.t 146), none⟩, []),
          (⟨none, .store 2 (.t 157) (.t 152), none⟩, []),
          (⟨(some 158), .indexAddr 2 (.t 147) (.t 148), none⟩, []),
          (⟨none, .store 2 (.t 158) (.t 156), none⟩, [])])
        (.seq
        (.region [
          ⟨(some 159), .move (.t 12), none⟩,
          ⟨(some 160), .bin .add (.t 159) (.c (.int .i64 1)), none⟩,
          ⟨(some 12), .move (.t 160), none⟩])
        (.region [
          ⟨(some 161), .move (.t 13), none⟩,
          ⟨(some 162), .bin .sub (.t 161) (.c (.int .i64 1)), none⟩,
          ⟨(some 13), .move (.t 162), none⟩])))))))))
  (.seq
  (.draw [
    (⟨(some 163), .move (.t 0), none⟩, []),
    (⟨(some 164), .move (.t 13), none⟩, []),
    (⟨(some 165), .move (.t 0), none⟩, []),
    (⟨(some 166), .move (.t 1), none⟩, []),
    (⟨(some 167), .move (.t 0), none⟩, []),
    (⟨(some 168), .move (.t 1), none⟩, []),
    (⟨(some 169), .indexAddr 2 (.t 167) (.t 168), none⟩, []),
    (⟨(some 170), .load true 2 (.t 169), none⟩, []),
    (⟨(some 171), .move (.t 0), none⟩, []),
    (⟨(some 172), .move (.t 13), none⟩, []),
    (⟨(some 173), .indexAddr 2 (.t 171) (.t 172), none⟩, []),
    (⟨(some 174), .load true 2 (.t 173), none⟩, []),
    (⟨(some 175), .indexAddr 2 (.t 163) (.t 164), none⟩, []),
    (⟨none, .store 2 (.t 175) (.t 170), none⟩, []),
    (⟨(some 176), .indexAddr 2 (.t 165) (.t 166), none⟩, []),
    (⟨none, .store 2 (.t 176) (.t 174), none⟩, [])])
  (.seq
  (.region [
    ⟨(some 177), .move (.t 13), none⟩,
    ⟨(some 10), .move (.t 177), none⟩,
    ⟨(some 11), .move (.c (.bool false)), none⟩])
  .ret))))))))))))⟩

structure F_slices_partitionCmpFunc_Entry (P : Program) where
  id : FuncId
  has : Has P id [] c_slices_partitionCmpFunc_Entry

def c_slices_pdqsortCmpFunc_Entry (f_slices_insertionSortCmpFunc_Entry : FuncId) (f_slices_heapSortCmpFunc_Entry : FuncId) (f_slices_breakPatternsCmpFunc_Entry : FuncId) (f_slices_choosePivotCmpFunc_Entry : FuncId) (f_slices_reverseRangeCmpFunc_Entry : FuncId) (f_slices_partialInsertionSortCmpFunc_Entry : FuncId) (f_slices_partitionEqualCmpFunc_Entry : FuncId) (f_slices_partitionCmpFunc_Entry : FuncId) (f_slices_pdqsortCmpFunc_Entry : FuncId) : AFunc := ⟨148, [],
  (.seq
  (.region [
    ⟨(some 10), .move (.c (.bool true)), none⟩])
  (.seq
  (.region [
    ⟨(some 11), .move (.c (.bool true)), none⟩])
  (.block 0
    (.loop
      (.block 1
        (.seq
        (.region [
          ⟨(some 21), .move (.t 2), none⟩,
          ⟨(some 22), .move (.t 1), none⟩,
          ⟨(some 23), .bin .sub (.t 21) (.t 22), none⟩,
          ⟨(some 12), .move (.t 23), none⟩])
        (.seq
        (.seq
        (.region [
          ⟨(some 24), .move (.t 12), none⟩,
          ⟨(some 25), .bin .leq (.t 24) (.c (.int .i64 12)), none⟩])
        (.cond (.t 25)
          (.seq
          (.region [
            ⟨(some 26), .move (.t 0), none⟩,
            ⟨(some 27), .move (.t 1), none⟩,
            ⟨(some 28), .move (.t 2), none⟩,
            ⟨(some 29), .move (.t 4), none⟩,
            ⟨(some 30), .call f_slices_insertionSortCmpFunc_Entry [(.t 26), (.t 27), (.t 28), (.t 29)], none⟩])
          .ret)
          .skip))
        (.seq
        (.seq
        (.region [
          ⟨(some 31), .move (.t 3), none⟩,
          ⟨(some 32), .bin .eql (.t 31) (.c (.int .i64 0)), none⟩])
        (.cond (.t 32)
          (.seq
          (.region [
            ⟨(some 33), .move (.t 0), none⟩,
            ⟨(some 34), .move (.t 1), none⟩,
            ⟨(some 35), .move (.t 2), none⟩,
            ⟨(some 36), .move (.t 4), none⟩,
            ⟨(some 37), .call f_slices_heapSortCmpFunc_Entry [(.t 33), (.t 34), (.t 35), (.t 36)], none⟩])
          .ret)
          .skip))
        (.seq
        (.seq
        (.region [
          ⟨(some 38), .move (.t 10), none⟩,
          ⟨(some 39), .un .not (.t 38), none⟩])
        (.cond (.t 39)
          (.seq
          (.region [
            ⟨(some 40), .move (.t 0), none⟩,
            ⟨(some 41), .move (.t 1), none⟩,
            ⟨(some 42), .move (.t 2), none⟩,
            ⟨(some 43), .move (.t 4), none⟩,
            ⟨(some 44), .call f_slices_breakPatternsCmpFunc_Entry [(.t 40), (.t 41), (.t 42), (.t 43)], none⟩])
          (.region [
            ⟨(some 45), .move (.t 3), none⟩,
            ⟨(some 46), .bin .sub (.t 45) (.c (.int .i64 1)), none⟩,
            ⟨(some 3), .move (.t 46), none⟩]))
          .skip))
        (.seq
        (.region [
          ⟨(some 48), .move (.t 0), none⟩,
          ⟨(some 49), .move (.t 1), none⟩,
          ⟨(some 50), .move (.t 2), none⟩,
          ⟨(some 51), .move (.t 4), none⟩,
          ⟨(some 52), .call f_slices_choosePivotCmpFunc_Entry [(.t 48), (.t 49), (.t 50), (.t 51)], none⟩,
          ⟨(some 47), .move (.t 52), none⟩,
          ⟨(some 53), .extract (.t 47) 0, none⟩,
          ⟨(some 54), .extract (.t 47) 1, none⟩,
          ⟨(some 13), .move (.t 53), none⟩,
          ⟨(some 14), .move (.t 54), none⟩])
        (.seq
        (.seq
        (.region [
          ⟨(some 55), .move (.t 14), none⟩,
          ⟨(some 56), .bin .eql (.t 55) (.c (.int .i64 2)), none⟩])
        (.cond (.t 56)
          (.seq
          (.region [
            ⟨(some 57), .move (.t 0), none⟩,
            ⟨(some 58), .move (.t 1), none⟩,
            ⟨(some 59), .move (.t 2), none⟩,
            ⟨(some 60), .move (.t 4), none⟩,
            ⟨(some 61), .call f_slices_reverseRangeCmpFunc_Entry [(.t 57), (.t 58), (.t 59), (.t 60)], none⟩])
          (.seq
          (.region [
            ⟨(some 62), .move (.t 2), none⟩,
            ⟨(some 63), .bin .sub (.t 62) (.c (.int .i64 1)), none⟩,
            ⟨(some 64), .move (.t 13), none⟩,
            ⟨(some 65), .move (.t 1), none⟩,
            ⟨(some 66), .bin .sub (.t 64) (.t 65), none⟩,
            ⟨(some 67), .bin .sub (.t 63) (.t 66), none⟩,
            ⟨(some 13), .move (.t 67), none⟩])
          (.region [
            ⟨(some 14), .move (.c (.int .i64 1)), none⟩])))
          .skip))
        (.seq
        (.seq
        (.region [
          ⟨(some 68), .move (.t 10), none⟩,
          ⟨(some 69), .move (.t 68), none⟩,
          ⟨(some 70), .move (.t 11), some (some 69, true)⟩,
          ⟨(some 71), .pick (.t 69) (.t 70) (.c (.bool false)), none⟩,
          ⟨(some 72), .move (.t 71), none⟩,
          ⟨(some 73), .move (.t 14), some (some 72, true)⟩,
          ⟨(some 74), .bin .eql (.t 73) (.c (.int .i64 1)), some (some 72, true)⟩,
          ⟨(some 75), .pick (.t 72) (.t 74) (.c (.bool false)), none⟩])
        (.cond (.t 75)
          (.seq
          (.region [
            ⟨(some 76), .move (.t 0), none⟩,
            ⟨(some 77), .move (.t 1), none⟩,
            ⟨(some 78), .move (.t 2), none⟩,
            ⟨(some 79), .move (.t 4), none⟩,
            ⟨(some 80), .call f_slices_partialInsertionSortCmpFunc_Entry [(.t 76), (.t 77), (.t 78), (.t 79)], none⟩])
          (.cond (.t 80)
            .ret
            .skip))
          .skip))
        (.seq
        (.seq
        (.draw [
          (⟨(some 81), .move (.t 1), none⟩, []),
          (⟨(some 82), .bin .gtr (.t 81) (.c (.int .i64 0)), none⟩, []),
          (⟨(some 83), .move (.t 82), none⟩, []),
          (⟨(some 84), .move (.t 4), some (some 83, true)⟩, []),
          (⟨(some 85), .move (.t 0), some (some 83, true)⟩, []),
          (⟨(some 86), .move (.t 1), some (some 83, true)⟩, []),
          (⟨(some 87), .bin .sub (.t 86) (.c (.int .i64 1)), some (some 83, true)⟩, []),
          (⟨(some 88), .indexAddr 2 (.t 85) (.t 87), some (some 83, true)⟩, []),
          (⟨(some 89), .load true 2 (.t 88), some (some 83, true)⟩, []),
          (⟨(some 90), .move (.t 0), some (some 83, true)⟩, []),
          (⟨(some 91), .move (.t 13), some (some 83, true)⟩, []),
          (⟨(some 92), .indexAddr 2 (.t 90) (.t 91), some (some 83, true)⟩, []),
          (⟨(some 93), .load true 2 (.t 92), some (some 83, true)⟩, []),
          (⟨(some 94), .callv (.t 84) [(.t 89), (.t 93)], some (some 83, true)⟩, []),
          (⟨(some 95), .bin .lss (.t 94) (.c (.int .i64 0)), some (some 83, true)⟩, []),
          (⟨(some 96), .un .not (.t 95), some (some 83, true)⟩, []),
          (⟨(some 97), .pick (.t 83) (.t 96) (.c (.bool false)), none⟩, [])])
        (.cond (.t 97)
          (.seq
          (.region [
            ⟨(some 98), .move (.t 0), none⟩,
            ⟨(some 99), .move (.t 1), none⟩,
            ⟨(some 100), .move (.t 2), none⟩,
            ⟨(some 101), .move (.t 13), none⟩,
            ⟨(some 102), .move (.t 4), none⟩,
            ⟨(some 103), .call f_slices_partitionEqualCmpFunc_Entry [(.t 98), (.t 99), (.t 100), (.t 101), (.t 102)], none⟩,
            ⟨(some 15), .move (.t 103), none⟩])
          (.seq
          (.region [
            ⟨(some 104), .move (.t 15), none⟩,
            ⟨(some 1), .move (.t 104), none⟩])
          (.exit 1)))
          .skip))
        (.seq
        (.region [
          ⟨(some 106), .move (.t 0), none⟩,
          ⟨(some 107), .move (.t 1), none⟩,
          ⟨(some 108), .move (.t 2), none⟩,
          ⟨(some 109), .move (.t 13), none⟩,
          ⟨(some 110), .move (.t 4), none⟩,
          ⟨(some 111), .call f_slices_partitionCmpFunc_Entry [(.t 106), (.t 107), (.t 108), (.t 109), (.t 110)], none⟩,
          ⟨(some 105), .move (.t 111), none⟩,
          ⟨(some 112), .extract (.t 105) 0, none⟩,
          ⟨(some 113), .extract (.t 105) 1, none⟩,
          ⟨(some 16), .move (.t 112), none⟩,
          ⟨(some 17), .move (.t 113), none⟩])
        (.seq
        (.region [
          ⟨(some 114), .move (.t 17), none⟩,
          ⟨(some 11), .move (.t 114), none⟩])
        (.seq
        (.region [
          ⟨(some 115), .move (.t 16), none⟩,
          ⟨(some 116), .move (.t 1), none⟩,
          ⟨(some 117), .bin .sub (.t 115) (.t 116), none⟩,
          ⟨(some 118), .move (.t 2), none⟩,
          ⟨(some 119), .move (.t 16), none⟩,
          ⟨(some 120), .bin .sub (.t 118) (.t 119), none⟩,
          ⟨(some 18), .move (.t 117), none⟩,
          ⟨(some 19), .move (.t 120), none⟩])
        (.seq
        (.region [
          ⟨(some 121), .move (.t 12), none⟩,
          ⟨(some 122), .bin .quo (.t 121) (.c (.int .i64 8)), none⟩,
          ⟨(some 20), .move (.t 122), none⟩])
        (.seq
        (.region [
          ⟨(some 123), .move (.t 18), none⟩,
          ⟨(some 124), .move (.t 19), none⟩,
          ⟨(some 125), .bin .lss (.t 123) (.t 124), none⟩])
        (.cond (.t 125)
          (.seq
          (.region [
            ⟨(some 126), .move (.t 18), none⟩,
            ⟨(some 127), .move (.t 20), none⟩,
            ⟨(some 128), .bin .geq (.t 126) (.t 127), none⟩,
            ⟨(some 10), .move (.t 128), none⟩])
          (.seq
          (.region [
            ⟨(some 129), .move (.t 0), none⟩,
            ⟨(some 130), .move (.t 1), none⟩,
            ⟨(some 131), .move (.t 16), none⟩,
            ⟨(some 132), .move (.t 3), none⟩,
            ⟨(some 133), .move (.t 4), none⟩,
            ⟨(some 134), .call f_slices_pdqsortCmpFunc_Entry [(.t 129), (.t 130), (.t 131), (.t 132), (.t 133)], none⟩])
          (.region [
            ⟨(some 135), .move (.t 16), none⟩,
            ⟨(some 136), .bin .add (.t 135) (.c (.int .i64 1)), none⟩,
            ⟨(some 1), .move (.t 136), none⟩])))
          (.seq
          (.region [
            ⟨(some 137), .move (.t 19), none⟩,
            ⟨(some 138), .move (.t 20), none⟩,
            ⟨(some 139), .bin .geq (.t 137) (.t 138), none⟩,
            ⟨(some 10), .move (.t 139), none⟩])
          (.seq
          (.region [
            ⟨(some 140), .move (.t 0), none⟩,
            ⟨(some 141), .move (.t 16), none⟩,
            ⟨(some 142), .bin .add (.t 141) (.c (.int .i64 1)), none⟩,
            ⟨(some 143), .move (.t 2), none⟩,
            ⟨(some 144), .move (.t 3), none⟩,
            ⟨(some 145), .move (.t 4), none⟩,
            ⟨(some 146), .call f_slices_pdqsortCmpFunc_Entry [(.t 140), (.t 142), (.t 143), (.t 144), (.t 145)], none⟩])
          (.region [
            ⟨(some 147), .move (.t 16), none⟩,
            ⟨(some 2), .move (.t 147), none⟩]))))))))))))))))))))))⟩

structure F_slices_pdqsortCmpFunc_Entry (P : Program) where
  id : FuncId
  slices_insertionSortCmpFunc_Entry : F_slices_insertionSortCmpFunc_Entry P
  slices_heapSortCmpFunc_Entry : F_slices_heapSortCmpFunc_Entry P
  slices_breakPatternsCmpFunc_Entry : F_slices_breakPatternsCmpFunc_Entry P
  slices_choosePivotCmpFunc_Entry : F_slices_choosePivotCmpFunc_Entry P
  slices_reverseRangeCmpFunc_Entry : F_slices_reverseRangeCmpFunc_Entry P
  slices_partialInsertionSortCmpFunc_Entry : F_slices_partialInsertionSortCmpFunc_Entry P
  slices_partitionEqualCmpFunc_Entry : F_slices_partitionEqualCmpFunc_Entry P
  slices_partitionCmpFunc_Entry : F_slices_partitionCmpFunc_Entry P
  has : Has P id [] (c_slices_pdqsortCmpFunc_Entry slices_insertionSortCmpFunc_Entry.id slices_heapSortCmpFunc_Entry.id slices_breakPatternsCmpFunc_Entry.id slices_choosePivotCmpFunc_Entry.id slices_reverseRangeCmpFunc_Entry.id slices_partialInsertionSortCmpFunc_Entry.id slices_partitionEqualCmpFunc_Entry.id slices_partitionCmpFunc_Entry.id id)

def c_slices_SortFunc_LEntry_Entry (f_math_bits_Len : FuncId) (f_slices_pdqsortCmpFunc_Entry : FuncId) : AFunc := ⟨14, [],
  (.seq
  (.region [
    ⟨(some 5), .move (.t 0), none⟩,
    ⟨(some 6), .len (.t 5), none⟩,
    ⟨(some 4), .move (.t 6), none⟩])
  (.region [
    ⟨(some 7), .move (.t 0), none⟩,
    ⟨(some 8), .move (.t 4), none⟩,
    ⟨(some 9), .move (.t 4), none⟩,
    ⟨(some 10), .conv .u64 (.t 9), none⟩,
    ⟨(some 11), .call f_math_bits_Len [(.t 10)], none⟩,
    ⟨(some 12), .move (.t 1), none⟩,
    ⟨(some 13), .call f_slices_pdqsortCmpFunc_Entry [(.t 7), (.c (.int .i64 0)), (.t 8), (.t 11), (.t 12)], none⟩]))⟩

structure F_slices_SortFunc_LEntry_Entry (P : Program) where
  id : FuncId
  math_bits_Len : F_math_bits_Len P
  slices_pdqsortCmpFunc_Entry : F_slices_pdqsortCmpFunc_Entry P
  has : Has P id [] (c_slices_SortFunc_LEntry_Entry math_bits_Len.id slices_pdqsortCmpFunc_Entry.id)

end Go.AW

namespace Go.AW
def c_bytes_Clone : AFunc := ⟨8, [.tmp 2],
  (.seq
  (.region [
    ⟨(some 2), .move (.c .nil), none⟩])
  (.seq
  (.seq
  (.region [
    ⟨(some 3), .move (.t 0), none⟩,
    ⟨(some 4), .isNil false (.t 3), none⟩])
  (.cond (.t 4)
    (.seq
    (.region [
      ⟨(some 2), .move (.c .nil), none⟩])
    .ret)
    .skip))
  (.seq
  (.region [
    ⟨(some 5), .buildSlice 1 0 [(.int .u8 0)] [], none⟩,
    ⟨(some 6), .move (.t 0), none⟩,
    ⟨(some 7), .append 1 1 [(.int .u8 0)] (.t 5) (.t 6), none⟩,
    ⟨(some 2), .move (.t 7), none⟩])
  .ret)))⟩

structure F_bytes_Clone (P : Program) where
  id : FuncId
  has : Has P id [] c_bytes_Clone

def c_journal_put4 : AFunc := ⟨19, [.tmp 4],
  (.seq
  (.region [
    ⟨(some 4), .move (.c .nil), none⟩])
  (.seq
  (.region [
    ⟨(some 5), .move (.t 0), none⟩,
    ⟨(some 6), .move (.t 1), none⟩,
    ⟨(some 7), .bin .shr (.t 6) (.c (.int .u64 24)), none⟩,
    ⟨(some 8), .conv .u8 (.t 7), none⟩,
    ⟨(some 9), .move (.t 1), none⟩,
    ⟨(some 10), .bin .shr (.t 9) (.c (.int .u64 16)), none⟩,
    ⟨(some 11), .conv .u8 (.t 10), none⟩,
    ⟨(some 12), .move (.t 1), none⟩,
    ⟨(some 13), .bin .shr (.t 12) (.c (.int .u64 8)), none⟩,
    ⟨(some 14), .conv .u8 (.t 13), none⟩,
    ⟨(some 15), .move (.t 1), none⟩,
    ⟨(some 16), .conv .u8 (.t 15), none⟩,
    ⟨(some 17), .buildSlice 1 4 [(.int .u8 0)] [(0, (.t 8)), (1, (.t 11)), (2, (.t 14)), (3, (.t 16))], none⟩,
    ⟨(some 18), .append 1 1 [(.int .u8 0)] (.t 5) (.t 17), none⟩,
    ⟨(some 4), .move (.t 18), none⟩])
  .ret))⟩

structure F_journal_put4 (P : Program) where
  id : FuncId
  has : Has P id [] c_journal_put4

def c_journal_sum (f_journal_put4 : FuncId) (f_batch_Checksum : FuncId) : AFunc := ⟨10, [.tmp 2],
  (.seq
  (.region [
    ⟨(some 2), .move (.c (.int .u32 0)), none⟩])
  (.seq
  (.region [
    ⟨(some 3), .move (.t 0), none⟩,
    ⟨(some 4), .len (.t 3), none⟩,
    ⟨(some 5), .conv .u32 (.t 4), none⟩,
    ⟨(some 6), .call f_journal_put4 [(.c .nil), (.t 5)], none⟩,
    ⟨(some 7), .move (.t 0), none⟩,
    ⟨(some 8), .append 1 1 [(.int .u8 0)] (.t 6) (.t 7), none⟩,
    ⟨(some 9), .call f_batch_Checksum [(.t 8)], none⟩,
    ⟨(some 2), .move (.t 9), none⟩])
  .ret))⟩

structure F_journal_sum (P : Program) where
  id : FuncId
  journal_put4 : F_journal_put4 P
  batch_Checksum : F_batch_Checksum P
  has : Has P id [] (c_journal_sum journal_put4.id batch_Checksum.id)

def c_journal_Append (f_bytes_Clone : FuncId) (f_journal_put4 : FuncId) (f_journal_sum : FuncId) : AFunc := ⟨32, [.tmp 4, .tmp 5],
  (.seq
  (.region [
    ⟨(some 4), .move (.c .nil), none⟩,
    ⟨(some 5), .move (.c (.int .i64 0)), none⟩])
  (.seq
  (.seq
  (.region [
    ⟨(some 7), .move (.t 1), none⟩,
    ⟨(some 8), .len (.t 7), none⟩,
    ⟨(some 9), .bin .gtr (.t 8) (.c (.int .i64 65536)), none⟩,
    ⟨(some 10), .move (.t 9), none⟩,
    ⟨(some 11), .move (.t 0), some (some 10, false)⟩,
    ⟨(some 12), .len (.t 11), some (some 10, false)⟩,
    ⟨(some 13), .bin .add (.t 12) (.c (.int .i64 8)), some (some 10, false)⟩,
    ⟨(some 14), .move (.t 1), some (some 10, false)⟩,
    ⟨(some 15), .len (.t 14), some (some 10, false)⟩,
    ⟨(some 16), .bin .add (.t 13) (.t 15), some (some 10, false)⟩,
    ⟨(some 17), .bin .gtr (.t 16) (.c (.int .i64 4194304)), some (some 10, false)⟩,
    ⟨(some 18), .pick (.t 10) (.c (.bool true)) (.t 17), none⟩])
  (.cond (.t 18)
    (.seq
    (.region [
      ⟨(some 4), .move (.c .nil), none⟩,
      ⟨(some 5), .move (.c (.int .i64 2)), none⟩])
    .ret)
    .skip))
  (.seq
  (.region [
    ⟨(some 19), .move (.t 0), none⟩,
    ⟨(some 20), .call f_bytes_Clone [(.t 19)], none⟩,
    ⟨(some 21), .move (.t 1), none⟩,
    ⟨(some 22), .len (.t 21), none⟩,
    ⟨(some 23), .conv .u32 (.t 22), none⟩,
    ⟨(some 24), .call f_journal_put4 [(.t 20), (.t 23)], none⟩,
    ⟨(some 6), .move (.t 24), none⟩])
  (.seq
  (.region [
    ⟨(some 25), .move (.t 6), none⟩,
    ⟨(some 26), .move (.t 1), none⟩,
    ⟨(some 27), .call f_journal_sum [(.t 26)], none⟩,
    ⟨(some 28), .call f_journal_put4 [(.t 25), (.t 27)], none⟩,
    ⟨(some 6), .move (.t 28), none⟩])
  (.seq
  (.region [
    ⟨(some 29), .move (.t 6), none⟩,
    ⟨(some 30), .move (.t 1), none⟩,
    ⟨(some 31), .append 1 1 [(.int .u8 0)] (.t 29) (.t 30), none⟩,
    ⟨(some 4), .move (.t 31), none⟩,
    ⟨(some 5), .move (.c (.int .i64 0)), none⟩])
  .ret)))))⟩

structure F_journal_Append (P : Program) where
  id : FuncId
  bytes_Clone : F_bytes_Clone P
  journal_put4 : F_journal_put4 P
  journal_sum : F_journal_sum P
  has : Has P id [] (c_journal_Append bytes_Clone.id journal_put4.id journal_sum.id)

def c_journal_number : AFunc := ⟨25, [.tmp 2],
  (.seq
  (.region [
    ⟨(some 2), .move (.c (.int .i64 0)), none⟩])
  (.seq
  (.draw [
    (⟨(some 3), .move (.t 0), none⟩, []),
    (⟨(some 4), .indexAddr 1 (.t 3) (.c (.int .i64 0)), none⟩, []),
    (⟨(some 5), .load false 1 (.t 4), none⟩, []),
    (⟨(some 6), .conv .i64 (.t 5), none⟩, []),
    (⟨(some 7), .bin .shl (.t 6) (.c (.int .u64 24)), none⟩, []),
    (⟨(some 8), .move (.t 0), none⟩, []),
    (⟨(some 9), .indexAddr 1 (.t 8) (.c (.int .i64 1)), none⟩, []),
    (⟨(some 10), .load false 1 (.t 9), none⟩, []),
    (⟨(some 11), .conv .i64 (.t 10), none⟩, []),
    (⟨(some 12), .bin .shl (.t 11) (.c (.int .u64 16)), none⟩, []),
    (⟨(some 13), .bin .or (.t 7) (.t 12), none⟩, []),
    (⟨(some 14), .move (.t 0), none⟩, []),
    (⟨(some 15), .indexAddr 1 (.t 14) (.c (.int .i64 2)), none⟩, []),
    (⟨(some 16), .load false 1 (.t 15), none⟩, []),
    (⟨(some 17), .conv .i64 (.t 16), none⟩, []),
    (⟨(some 18), .bin .shl (.t 17) (.c (.int .u64 8)), none⟩, []),
    (⟨(some 19), .bin .or (.t 13) (.t 18), none⟩, []),
    (⟨(some 20), .move (.t 0), none⟩, []),
    (⟨(some 21), .indexAddr 1 (.t 20) (.c (.int .i64 3)), none⟩, []),
    (⟨(some 22), .load false 1 (.t 21), none⟩, []),
    (⟨(some 23), .conv .i64 (.t 22), none⟩, []),
    (⟨(some 24), .bin .or (.t 19) (.t 23), none⟩, []),
    (⟨(some 2), .move (.t 24), none⟩, [])])
  .ret))⟩

structure F_journal_number (P : Program) where
  id : FuncId
  has : Has P id [] c_journal_number

def c_journal_entries_1 (f_journal_number : FuncId) (f_journal_sum : FuncId) : AFunc := ⟨52, [],
  (.seq
  (.region [
    ⟨(some 3), .move (.c (.int .i64 0)), none⟩])
  (.block 0
    (.loop
      (.seq
      (.seq
      (.region [
        ⟨(some 6), .load false 1 (.t 1), none⟩,
        ⟨(some 7), .len (.t 6), none⟩,
        ⟨(some 8), .move (.t 3), none⟩,
        ⟨(some 9), .bin .sub (.t 7) (.t 8), none⟩,
        ⟨(some 10), .bin .geq (.t 9) (.c (.int .i64 8)), none⟩])
      (.cond (.t 10)
        .skip
        (.exit 0)))
      (.block 1
        (.seq
        (.region [
          ⟨(some 11), .load false 1 (.t 1), none⟩,
          ⟨(some 12), .move (.t 3), none⟩,
          ⟨(some 13), .slice 1 (.t 11) (some (.t 12)) none, none⟩,
          ⟨(some 14), .call f_journal_number [(.t 13)], none⟩,
          ⟨(some 4), .move (.t 14), none⟩])
        (.seq
        (.seq
        (.region [
          ⟨(some 15), .move (.t 4), none⟩,
          ⟨(some 16), .bin .gtr (.t 15) (.c (.int .i64 65536)), none⟩,
          ⟨(some 17), .move (.t 16), none⟩,
          ⟨(some 18), .move (.t 4), some (some 17, false)⟩,
          ⟨(some 19), .load false 1 (.t 1), some (some 17, false)⟩,
          ⟨(some 20), .len (.t 19), some (some 17, false)⟩,
          ⟨(some 21), .move (.t 3), some (some 17, false)⟩,
          ⟨(some 22), .bin .sub (.t 20) (.t 21), some (some 17, false)⟩,
          ⟨(some 23), .bin .sub (.t 22) (.c (.int .i64 8)), some (some 17, false)⟩,
          ⟨(some 24), .bin .gtr (.t 18) (.t 23), some (some 17, false)⟩,
          ⟨(some 25), .pick (.t 17) (.c (.bool true)) (.t 24), none⟩])
        (.cond (.t 25)
          .ret
          .skip))
        (.seq
        (.region [
          ⟨(some 26), .load false 1 (.t 1), none⟩,
          ⟨(some 27), .move (.t 3), none⟩,
          ⟨(some 28), .bin .add (.t 27) (.c (.int .i64 8)), none⟩,
          ⟨(some 29), .move (.t 3), none⟩,
          ⟨(some 30), .bin .add (.t 29) (.c (.int .i64 8)), none⟩,
          ⟨(some 31), .move (.t 4), none⟩,
          ⟨(some 32), .bin .add (.t 30) (.t 31), none⟩,
          ⟨(some 33), .slice 1 (.t 26) (some (.t 28)) (some (.t 32)), none⟩,
          ⟨(some 5), .move (.t 33), none⟩])
        (.seq
        (.seq
        (.region [
          ⟨(some 34), .load false 1 (.t 1), none⟩,
          ⟨(some 35), .move (.t 3), none⟩,
          ⟨(some 36), .bin .add (.t 35) (.c (.int .i64 4)), none⟩,
          ⟨(some 37), .slice 1 (.t 34) (some (.t 36)) none, none⟩,
          ⟨(some 38), .call f_journal_number [(.t 37)], none⟩,
          ⟨(some 39), .conv .u32 (.t 38), none⟩,
          ⟨(some 40), .move (.t 5), none⟩,
          ⟨(some 41), .call f_journal_sum [(.t 40)], none⟩,
          ⟨(some 42), .bin .neq (.t 39) (.t 41), none⟩])
        (.cond (.t 42)
          .ret
          .skip))
        (.seq
        (.region [
          ⟨(some 43), .move (.t 3), none⟩,
          ⟨(some 44), .move (.t 4), none⟩,
          ⟨(some 45), .bin .add (.c (.int .i64 8)) (.t 44), none⟩,
          ⟨(some 46), .bin .add (.t 43) (.t 45), none⟩,
          ⟨(some 3), .move (.t 46), none⟩])
        (.seq
        (.region [
          ⟨(some 47), .move (.t 0), none⟩,
          ⟨(some 48), .move (.t 5), none⟩,
          ⟨(some 49), .move (.t 3), none⟩,
          ⟨(some 50), .callv (.t 47) [(.t 48), (.t 49)], none⟩,
          ⟨(some 51), .un .not (.t 50), none⟩])
        (.cond (.t 51)
          .ret
          .skip))))))))))))⟩

structure F_journal_entries_1 (P : Program) where
  id : FuncId
  journal_number : F_journal_number P
  journal_sum : F_journal_sum P
  has : Has P id [] (c_journal_entries_1 journal_number.id journal_sum.id)

def c_journal_entries (f_journal_entries_1 : FuncId) : AFunc := ⟨4, [.tmp 2],
  (.seq
  (.region [
    ⟨(some 1), .box (.t 0), none⟩,
    ⟨(some 2), .move (.c .junk), none⟩])
  (.seq
  (.region [
    ⟨(some 3), .makeFunc f_journal_entries_1 [(.t 1)], none⟩,
    ⟨(some 2), .move (.t 3), none⟩])
  .ret))⟩

structure F_journal_entries (P : Program) where
  id : FuncId
  journal_entries_1 : F_journal_entries_1 P
  has : Has P id [] (c_journal_entries journal_entries_1.id)

def c_journal_Read (f_journal_entries : FuncId) : AFunc := ⟨20, [.tmp 2, .tmp 3],
  (.seq
  (.region [
    ⟨(some 2), .move (.c .nil), none⟩,
    ⟨(some 3), .move (.c (.int .i64 0)), none⟩])
  (.seq
  (.region [
    ⟨(some 4), .alloc [.nil], none⟩])
  (.seq
  (.region [
    ⟨(some 5), .alloc [(.int .i64 0)], none⟩,
    ⟨none, .store 1 (.t 5) (.c (.int .i64 0)), none⟩])
  (.seq
  (.seq
  (.region [
    ⟨(some 8), .move (.t 0), none⟩,
    ⟨(some 9), .call f_journal_entries [(.t 8)], none⟩])
  (.block 0
    .stuck))
  (.seq
  (.draw [
    (⟨(some 18), .load false 1 (.t 4), none⟩, []),
    (⟨(some 19), .load false 1 (.t 5), none⟩, []),
    (⟨(some 2), .move (.t 18), none⟩, []),
    (⟨(some 3), .move (.t 19), none⟩, [])])
  .ret)))))⟩

structure F_journal_Read (P : Program) where
  id : FuncId
  journal_entries : F_journal_entries P
  has : Has P id [] (c_journal_Read journal_entries.id)

def c_journal_Repair (f_journal_Read : FuncId) (f_bytes_Clone : FuncId) : AFunc := ⟨14, [.tmp 2],
  (.seq
  (.region [
    ⟨(some 2), .move (.c .nil), none⟩])
  (.seq
  (.region [
    ⟨(some 6), .move (.t 0), none⟩,
    ⟨(some 7), .call f_journal_Read [(.t 6)], none⟩,
    ⟨(some 5), .move (.t 7), none⟩,
    ⟨(some 8), .extract (.t 5) 0, none⟩,
    ⟨(some 9), .extract (.t 5) 1, none⟩,
    ⟨(some 3), .move (.t 8), none⟩,
    ⟨(some 4), .move (.t 9), none⟩])
  (.seq
  (.region [
    ⟨(some 10), .move (.t 0), none⟩,
    ⟨(some 11), .move (.t 4), none⟩,
    ⟨(some 12), .slice 1 (.t 10) none (some (.t 11)), none⟩,
    ⟨(some 13), .call f_bytes_Clone [(.t 12)], none⟩,
    ⟨(some 2), .move (.t 13), none⟩])
  .ret)))⟩

structure F_journal_Repair (P : Program) where
  id : FuncId
  journal_Read : F_journal_Read P
  bytes_Clone : F_bytes_Clone P
  has : Has P id [] (c_journal_Repair journal_Read.id bytes_Clone.id)

def c_warehouselaw35_known (f_journal_Append : FuncId) (f_journal_Read : FuncId) (f_journal_Repair : FuncId) : AFunc := ⟨65, [.tmp 0],
  (.seq
  (.region [
    ⟨(some 0), .move (.c (.bool false)), none⟩])
  (.seq
  (.region [
    ⟨(some 8), .call f_journal_Append [(.c .nil), (.c .nil)], none⟩,
    ⟨(some 7), .move (.t 8), none⟩,
    ⟨(some 9), .extract (.t 7) 0, none⟩,
    ⟨(some 10), .extract (.t 7) 1, none⟩,
    ⟨(some 1), .move (.t 9), none⟩,
    ⟨(some 2), .move (.t 10), none⟩])
  (.seq
  (.seq
  (.region [
    ⟨(some 12), .move (.t 1), none⟩,
    ⟨(some 13), .buildSliceO 1 2 [(.int .u8 0)] [(0, (.c (.int .u8 120))), (1, (.c (.int .u8 121)))], none⟩,
    ⟨(some 14), .mark (.t 13), none⟩,
    ⟨(some 15), .call f_journal_Append [(.t 12), (.t 14)], none⟩,
    ⟨(some 11), .move (.t 15), none⟩,
    ⟨(some 16), .extract (.t 11) 0, none⟩,
    ⟨(some 17), .extract (.t 11) 1, none⟩,
    ⟨(some 3), .move (.t 16), none⟩,
    ⟨(some 4), .move (.t 17), none⟩])
  .ghost)
  (.seq
  (.region [
    ⟨(some 19), .move (.t 3), none⟩,
    ⟨(some 20), .append 1 1 [(.int .u8 0)] (.c .nil) (.t 19), none⟩,
    ⟨(some 21), .buildSlice 1 3 [(.int .u8 0)] [(0, (.c (.int .u8 0))), (1, (.c (.int .u8 0))), (2, (.c (.int .u8 0)))], none⟩,
    ⟨(some 22), .append 1 1 [(.int .u8 0)] (.t 20) (.t 21), none⟩,
    ⟨(some 23), .call f_journal_Read [(.t 22)], none⟩,
    ⟨(some 18), .move (.t 23), none⟩,
    ⟨(some 24), .extract (.t 18) 0, none⟩,
    ⟨(some 25), .extract (.t 18) 1, none⟩,
    ⟨(some 5), .move (.t 24), none⟩,
    ⟨(some 6), .move (.t 25), none⟩])
  (.seq
  (.region [
    ⟨(some 26), .move (.t 2), none⟩,
    ⟨(some 27), .bin .eql (.t 26) (.c (.int .i64 0)), none⟩,
    ⟨(some 28), .move (.t 27), none⟩,
    ⟨(some 29), .move (.t 1), some (some 28, true)⟩,
    ⟨(some 30), .len (.t 29), some (some 28, true)⟩,
    ⟨(some 31), .bin .eql (.t 30) (.c (.int .i64 8)), some (some 28, true)⟩,
    ⟨(some 32), .pick (.t 28) (.t 31) (.c (.bool false)), none⟩,
    ⟨(some 33), .move (.t 32), none⟩,
    ⟨(some 34), .move (.t 4), some (some 33, true)⟩,
    ⟨(some 35), .bin .eql (.t 34) (.c (.int .i64 0)), some (some 33, true)⟩,
    ⟨(some 36), .pick (.t 33) (.t 35) (.c (.bool false)), none⟩,
    ⟨(some 37), .move (.t 36), none⟩,
    ⟨(some 38), .move (.t 3), some (some 37, true)⟩,
    ⟨(some 39), .len (.t 38), some (some 37, true)⟩,
    ⟨(some 40), .bin .eql (.t 39) (.c (.int .i64 18)), some (some 37, true)⟩,
    ⟨(some 41), .pick (.t 37) (.t 40) (.c (.bool false)), none⟩,
    ⟨(some 42), .move (.t 41), none⟩,
    ⟨(some 43), .move (.t 6), some (some 42, true)⟩,
    ⟨(some 44), .bin .eql (.t 43) (.c (.int .i64 18)), some (some 42, true)⟩,
    ⟨(some 45), .pick (.t 42) (.t 44) (.c (.bool false)), none⟩,
    ⟨(some 46), .move (.t 45), none⟩,
    ⟨(some 47), .move (.t 5), some (some 46, true)⟩,
    ⟨(some 48), .len (.t 47), some (some 46, true)⟩,
    ⟨(some 49), .bin .eql (.t 48) (.c (.int .i64 2)), some (some 46, true)⟩,
    ⟨(some 50), .pick (.t 46) (.t 49) (.c (.bool false)), none⟩,
    ⟨(some 51), .move (.t 50), none⟩,
    ⟨(some 52), .move (.t 5), some (some 51, true)⟩,
    ⟨(some 53), .indexAddr 1 (.t 52) (.c (.int .i64 1)), some (some 51, true)⟩,
    ⟨(some 54), .load false 1 (.t 53), some (some 51, true)⟩,
    ⟨(some 55), .convBS (.t 54), some (some 51, true)⟩,
    ⟨(some 56), .bin .eql (.t 55) (.c (.str (bs [120, 121]))), some (some 51, true)⟩,
    ⟨(some 57), .pick (.t 51) (.t 56) (.c (.bool false)), none⟩,
    ⟨(some 58), .move (.t 57), none⟩,
    ⟨(some 59), .move (.t 3), some (some 58, true)⟩,
    ⟨(some 60), .slice 1 (.t 59) none (some (.c (.int .i64 17))), some (some 58, true)⟩,
    ⟨(some 61), .call f_journal_Repair [(.t 60)], some (some 58, true)⟩,
    ⟨(some 62), .len (.t 61), some (some 58, true)⟩,
    ⟨(some 63), .bin .eql (.t 62) (.c (.int .i64 8)), some (some 58, true)⟩,
    ⟨(some 64), .pick (.t 58) (.t 63) (.c (.bool false)), none⟩,
    ⟨(some 0), .move (.t 64), none⟩])
  .ret)))))⟩

structure F_warehouselaw35_known (P : Program) where
  id : FuncId
  journal_Append : F_journal_Append P
  journal_Read : F_journal_Read P
  journal_Repair : F_journal_Repair P
  has : Has P id [13, 100004] (c_warehouselaw35_known journal_Append.id journal_Read.id journal_Repair.id)

def c_warehouseref35_Number : AFunc := ⟨24, [.tmp 4],
  (.seq
  (.region [
    ⟨(some 4), .move (.c .nil), none⟩])
  (.seq
  (.region [
    ⟨(some 7), .move (.t 1), none⟩,
    ⟨(some 8), .mkSlice 1 1 [(.int .u8 0)] (.t 7) (.t 7), none⟩,
    ⟨(some 5), .move (.t 8), none⟩])
  (.seq
  (.seq
  (.region [
    ⟨(some 9), .move (.t 1), none⟩,
    ⟨(some 10), .bin .sub (.t 9) (.c (.int .i64 1)), none⟩,
    ⟨(some 6), .move (.t 10), none⟩])
  (.block 0
    (.loop
      (.seq
      (.seq
      (.region [
        ⟨(some 11), .move (.t 6), none⟩,
        ⟨(some 12), .bin .geq (.t 11) (.c (.int .i64 0)), none⟩])
      (.cond (.t 12)
        .skip
        (.exit 0)))
      (.seq
      (.block 1
        (.seq
        (.region [
          ⟨(some 15), .move (.t 5), none⟩,
          ⟨(some 16), .move (.t 6), none⟩,
          ⟨(some 17), .move (.t 0), none⟩,
          ⟨(some 18), .bin .rem (.t 17) (.c (.int .i64 256)), none⟩,
          ⟨(some 19), .conv .u8 (.t 18), none⟩,
          ⟨(some 20), .indexAddr 1 (.t 15) (.t 16), none⟩,
          ⟨none, .store 1 (.t 20) (.t 19), none⟩])
        (.region [
          ⟨(some 21), .move (.t 0), none⟩,
          ⟨(some 22), .bin .quo (.t 21) (.c (.int .i64 256)), none⟩,
          ⟨(some 0), .move (.t 22), none⟩])))
      (.region [
        ⟨(some 13), .move (.t 6), none⟩,
        ⟨(some 14), .bin .sub (.t 13) (.c (.int .i64 1)), none⟩,
        ⟨(some 6), .move (.t 14), none⟩]))))))
  (.seq
  (.region [
    ⟨(some 23), .move (.t 5), none⟩,
    ⟨(some 4), .move (.t 23), none⟩])
  .ret))))⟩

structure F_warehouseref35_Number (P : Program) where
  id : FuncId
  has : Has P id [] c_warehouseref35_Number

def c_warehouseref35_Entry (f_warehouseref35_Number : FuncId) (f_warehouseref24_Checksum : FuncId) : AFunc := ⟨22, [.tmp 2],
  (.seq
  (.region [
    ⟨(some 2), .move (.c .nil), none⟩])
  (.seq
  (.region [
    ⟨(some 5), .move (.t 0), none⟩,
    ⟨(some 6), .len (.t 5), none⟩,
    ⟨(some 7), .call f_warehouseref35_Number [(.t 6), (.c (.int .i64 4))], none⟩,
    ⟨(some 8), .move (.t 0), none⟩,
    ⟨(some 9), .append 1 1 [(.int .u8 0)] (.t 7) (.t 8), none⟩,
    ⟨(some 3), .move (.t 9), none⟩])
  (.seq
  (.region [
    ⟨(some 10), .move (.t 3), none⟩,
    ⟨(some 11), .slice 1 (.t 10) none (some (.c (.int .i64 4))), none⟩,
    ⟨(some 12), .append 1 1 [(.int .u8 0)] (.c .nil) (.t 11), none⟩,
    ⟨(some 4), .move (.t 12), none⟩])
  (.seq
  (.region [
    ⟨(some 13), .move (.t 4), none⟩,
    ⟨(some 14), .move (.t 3), none⟩,
    ⟨(some 15), .call f_warehouseref24_Checksum [(.t 14)], none⟩,
    ⟨(some 16), .conv .i64 (.t 15), none⟩,
    ⟨(some 17), .call f_warehouseref35_Number [(.t 16), (.c (.int .i64 4))], none⟩,
    ⟨(some 18), .append 1 1 [(.int .u8 0)] (.t 13) (.t 17), none⟩,
    ⟨(some 4), .move (.t 18), none⟩])
  (.seq
  (.region [
    ⟨(some 19), .move (.t 4), none⟩,
    ⟨(some 20), .move (.t 0), none⟩,
    ⟨(some 21), .append 1 1 [(.int .u8 0)] (.t 19) (.t 20), none⟩,
    ⟨(some 2), .move (.t 21), none⟩])
  .ret)))))⟩

structure F_warehouseref35_Entry (P : Program) where
  id : FuncId
  warehouseref35_Number : F_warehouseref35_Number P
  warehouseref24_Checksum : F_warehouseref24_Checksum P
  has : Has P id [] (c_warehouseref35_Entry warehouseref35_Number.id warehouseref24_Checksum.id)

def c_warehouselaw35_light : AFunc := ⟨19, [.tmp 2],
  (.seq
  (.region [
    ⟨(some 2), .move (.c (.bool false)), none⟩])
  (.seq
  (.seq
  (.region [
    ⟨(some 4), .move (.t 0), none⟩,
    ⟨(some 5), .len (.t 4), none⟩,
    ⟨(some 6), .bin .gtr (.t 5) (.c (.int .i64 20)), none⟩])
  (.cond (.t 6)
    (.seq
    (.region [
      ⟨(some 2), .move (.c (.bool false)), none⟩])
    .ret)
    .skip))
  (.seq
  (.seq
  (.region [
    ⟨(some 7), .move (.t 0), none⟩,
    ⟨(some 8), .len (.t 7), none⟩,
    ⟨(some 9), .move (.c (.int .i64 0)), none⟩])
  (.block 0
    (.loop
      (.seq
      (.region [
        ⟨(some 10), .bin .lss (.t 9) (.t 8), none⟩])
      (.seq
      (.cond (.t 10)
        .skip
        (.exit 0))
      (.seq
      (.block 1
        (.seq
        (.region [
          ⟨(some 11), .move (.t 9), none⟩,
          ⟨(some 3), .move (.t 11), none⟩])
        (.seq
        (.region [
          ⟨(some 12), .move (.t 0), none⟩,
          ⟨(some 13), .move (.t 3), none⟩,
          ⟨(some 14), .indexAddr 1 (.t 12) (.t 13), none⟩,
          ⟨(some 15), .load false 1 (.t 14), none⟩,
          ⟨(some 16), .len (.t 15), none⟩,
          ⟨(some 17), .bin .gtr (.t 16) (.c (.int .i64 300)), none⟩])
        (.cond (.t 17)
          (.seq
          (.region [
            ⟨(some 2), .move (.c (.bool false)), none⟩])
          .ret)
          .skip))))
      (.region [
        ⟨(some 18), .bin .add (.t 9) (.c (.int .i64 1)), none⟩,
        ⟨(some 9), .move (.t 18), none⟩])))))))
  (.seq
  (.region [
    ⟨(some 2), .move (.c (.bool true)), none⟩])
  .ret))))⟩

structure F_warehouselaw35_light (P : Program) where
  id : FuncId
  has : Has P id [] c_warehouselaw35_light

def c_warehouseref35_Read (f_warehouseref35_Entry : FuncId) : AFunc := ⟨70, [.tmp 2, .tmp 3],
  (.seq
  (.region [
    ⟨(some 2), .move (.c .nil), none⟩,
    ⟨(some 3), .move (.c (.int .i64 0)), none⟩])
  (.seq
  (.region [
    ⟨(some 4), .move (.c .nil), none⟩])
  (.seq
  (.region [
    ⟨(some 5), .move (.c (.int .i64 0)), none⟩])
  (.seq
  (.block 0
    (.loop
      (.seq
      (.seq
      (.region [
        ⟨(some 9), .move (.t 5), none⟩,
        ⟨(some 10), .bin .add (.t 9) (.c (.int .i64 8)), none⟩,
        ⟨(some 11), .move (.t 0), none⟩,
        ⟨(some 12), .len (.t 11), none⟩,
        ⟨(some 13), .bin .leq (.t 10) (.t 12), none⟩])
      (.cond (.t 13)
        .skip
        (.exit 0)))
      (.block 1
        (.seq
        (.region [
          ⟨(some 6), .move (.c (.int .i64 0)), none⟩])
        (.seq
        (.seq
        (.region [
          ⟨(some 7), .move (.c (.int .i64 0)), none⟩])
        (.block 2
          (.loop
            (.seq
            (.seq
            (.region [
              ⟨(some 14), .move (.t 7), none⟩,
              ⟨(some 15), .bin .lss (.t 14) (.c (.int .i64 4)), none⟩])
            (.cond (.t 15)
              .skip
              (.exit 2)))
            (.seq
            (.block 3
              (.region [
                ⟨(some 18), .move (.t 6), none⟩,
                ⟨(some 19), .bin .mul (.t 18) (.c (.int .i64 256)), none⟩,
                ⟨(some 20), .move (.t 0), none⟩,
                ⟨(some 21), .move (.t 5), none⟩,
                ⟨(some 22), .move (.t 7), none⟩,
                ⟨(some 23), .bin .add (.t 21) (.t 22), none⟩,
                ⟨(some 24), .indexAddr 1 (.t 20) (.t 23), none⟩,
                ⟨(some 25), .load false 1 (.t 24), none⟩,
                ⟨(some 26), .conv .i64 (.t 25), none⟩,
                ⟨(some 27), .bin .add (.t 19) (.t 26), none⟩,
                ⟨(some 6), .move (.t 27), none⟩]))
            (.region [
              ⟨(some 16), .move (.t 7), none⟩,
              ⟨(some 17), .bin .add (.t 16) (.c (.int .i64 1)), none⟩,
              ⟨(some 7), .move (.t 17), none⟩]))))))
        (.seq
        (.seq
        (.region [
          ⟨(some 28), .move (.t 6), none⟩,
          ⟨(some 29), .bin .gtr (.t 28) (.c (.int .i64 65536)), none⟩,
          ⟨(some 30), .move (.t 29), none⟩,
          ⟨(some 31), .move (.t 5), some (some 30, false)⟩,
          ⟨(some 32), .bin .add (.t 31) (.c (.int .i64 8)), some (some 30, false)⟩,
          ⟨(some 33), .move (.t 6), some (some 30, false)⟩,
          ⟨(some 34), .bin .add (.t 32) (.t 33), some (some 30, false)⟩,
          ⟨(some 35), .move (.t 0), some (some 30, false)⟩,
          ⟨(some 36), .len (.t 35), some (some 30, false)⟩,
          ⟨(some 37), .bin .gtr (.t 34) (.t 36), some (some 30, false)⟩,
          ⟨(some 38), .pick (.t 30) (.c (.bool true)) (.t 37), none⟩])
        (.cond (.t 38)
          (.exit 0)
          .skip))
        (.seq
        (.seq
        (.region [
          ⟨(some 39), .move (.t 0), none⟩,
          ⟨(some 40), .move (.t 5), none⟩,
          ⟨(some 41), .bin .add (.t 40) (.c (.int .i64 8)), none⟩,
          ⟨(some 42), .move (.t 5), none⟩,
          ⟨(some 43), .bin .add (.t 42) (.c (.int .i64 8)), none⟩,
          ⟨(some 44), .move (.t 6), none⟩,
          ⟨(some 45), .bin .add (.t 43) (.t 44), none⟩,
          ⟨(some 46), .slice 1 (.t 39) (some (.t 41)) (some (.t 45)), none⟩,
          ⟨(some 47), .append 1 1 [(.int .u8 0)] (.c .nil) (.t 46), none⟩,
          ⟨(some 8), .move (.t 47), none⟩])
        .ghost)
        (.seq
        (.seq
        (.draw [
          (⟨(some 48), .move (.t 8), none⟩, []),
          (⟨(some 49), .call f_warehouseref35_Entry [(.t 48)], none⟩, []),
          (⟨(some 50), .convBS (.t 49), none⟩, []),
          (⟨(some 51), .move (.t 0), none⟩, []),
          (⟨(some 52), .move (.t 5), none⟩, []),
          (⟨(some 53), .move (.t 5), none⟩, []),
          (⟨(some 54), .bin .add (.t 53) (.c (.int .i64 8)), none⟩, []),
          (⟨(some 55), .move (.t 6), none⟩, []),
          (⟨(some 56), .bin .add (.t 54) (.t 55), none⟩, []),
          (⟨(some 57), .slice 1 (.t 51) (some (.t 52)) (some (.t 56)), none⟩, []),
          (⟨(some 58), .convBS (.t 57), none⟩, []),
          (⟨(some 59), .bin .neq (.t 50) (.t 58), none⟩, [])])
        (.cond (.t 59)
          (.exit 0)
          .skip))
        (.region [
          ⟨(some 60), .move (.t 4), none⟩,
          ⟨(some 61), .move (.t 8), none⟩,
          ⟨(some 62), .buildSlice 1 1 [.nil] [(0, (.t 61))], none⟩,
          ⟨(some 63), .append 1 24 [.nil] (.t 60) (.t 62), none⟩,
          ⟨(some 64), .move (.t 5), none⟩,
          ⟨(some 65), .bin .add (.t 64) (.c (.int .i64 8)), none⟩,
          ⟨(some 66), .move (.t 6), none⟩,
          ⟨(some 67), .bin .add (.t 65) (.t 66), none⟩,
          ⟨(some 4), .move (.t 63), none⟩,
          ⟨(some 5), .move (.t 67), none⟩]))))))))))
  (.seq
  (.region [
    ⟨(some 68), .move (.t 4), none⟩,
    ⟨(some 69), .move (.t 5), none⟩,
    ⟨(some 2), .move (.t 68), none⟩,
    ⟨(some 3), .move (.t 69), none⟩])
  .ret)))))⟩

structure F_warehouseref35_Read (P : Program) where
  id : FuncId
  warehouseref35_Entry : F_warehouseref35_Entry P
  has : Has P id [100008] (c_warehouseref35_Read warehouseref35_Entry.id)

def c_warehouselaw35_same : AFunc := ⟨28, [.tmp 4],
  (.seq
  (.region [
    ⟨(some 4), .move (.c (.bool false)), none⟩])
  (.seq
  (.seq
  (.region [
    ⟨(some 6), .move (.t 0), none⟩,
    ⟨(some 7), .len (.t 6), none⟩,
    ⟨(some 8), .move (.t 1), none⟩,
    ⟨(some 9), .len (.t 8), none⟩,
    ⟨(some 10), .bin .neq (.t 7) (.t 9), none⟩])
  (.cond (.t 10)
    (.seq
    (.region [
      ⟨(some 4), .move (.c (.bool false)), none⟩])
    .ret)
    .skip))
  (.seq
  (.seq
  (.region [
    ⟨(some 11), .move (.t 0), none⟩,
    ⟨(some 12), .len (.t 11), none⟩,
    ⟨(some 13), .move (.c (.int .i64 0)), none⟩])
  (.block 0
    (.loop
      (.seq
      (.region [
        ⟨(some 14), .bin .lss (.t 13) (.t 12), none⟩])
      (.seq
      (.cond (.t 14)
        .skip
        (.exit 0))
      (.seq
      (.block 1
        (.seq
        (.region [
          ⟨(some 15), .move (.t 13), none⟩,
          ⟨(some 5), .move (.t 15), none⟩])
        (.seq
        (.draw [
          (⟨(some 16), .move (.t 0), none⟩, []),
          (⟨(some 17), .move (.t 5), none⟩, []),
          (⟨(some 18), .indexAddr 1 (.t 16) (.t 17), none⟩, []),
          (⟨(some 19), .load false 1 (.t 18), none⟩, []),
          (⟨(some 20), .convBS (.t 19), none⟩, []),
          (⟨(some 21), .move (.t 1), none⟩, []),
          (⟨(some 22), .move (.t 5), none⟩, []),
          (⟨(some 23), .indexAddr 1 (.t 21) (.t 22), none⟩, []),
          (⟨(some 24), .load false 1 (.t 23), none⟩, []),
          (⟨(some 25), .convBS (.t 24), none⟩, []),
          (⟨(some 26), .bin .neq (.t 20) (.t 25), none⟩, [])])
        (.cond (.t 26)
          (.seq
          (.region [
            ⟨(some 4), .move (.c (.bool false)), none⟩])
          .ret)
          .skip))))
      (.region [
        ⟨(some 27), .bin .add (.t 13) (.c (.int .i64 1)), none⟩,
        ⟨(some 13), .move (.t 27), none⟩])))))))
  (.seq
  (.region [
    ⟨(some 4), .move (.c (.bool true)), none⟩])
  .ret))))⟩

structure F_warehouselaw35_same (P : Program) where
  id : FuncId
  has : Has P id [] c_warehouselaw35_same

def c_warehouseref35_Repair (f_warehouseref35_Read : FuncId) : AFunc := ⟨14, [.tmp 2],
  (.seq
  (.region [
    ⟨(some 2), .move (.c .nil), none⟩])
  (.seq
  (.region [
    ⟨(some 6), .move (.t 0), none⟩,
    ⟨(some 7), .call f_warehouseref35_Read [(.t 6)], none⟩,
    ⟨(some 5), .move (.t 7), none⟩,
    ⟨(some 8), .extract (.t 5) 0, none⟩,
    ⟨(some 9), .extract (.t 5) 1, none⟩,
    ⟨(some 3), .move (.t 8), none⟩,
    ⟨(some 4), .move (.t 9), none⟩])
  (.seq
  (.region [
    ⟨(some 10), .move (.t 0), none⟩,
    ⟨(some 11), .move (.t 4), none⟩,
    ⟨(some 12), .slice 1 (.t 10) none (some (.t 11)), none⟩,
    ⟨(some 13), .append 1 1 [(.int .u8 0)] (.c .nil) (.t 12), none⟩,
    ⟨(some 2), .move (.t 13), none⟩])
  .ret)))⟩

structure F_warehouseref35_Repair (P : Program) where
  id : FuncId
  warehouseref35_Read : F_warehouseref35_Read P
  has : Has P id [] (c_warehouseref35_Repair warehouseref35_Read.id)

def c_warehouselaw35_JournalReads (f_warehouselaw35_light : FuncId) (f_warehouselaw35_known : FuncId) (f_warehouseref35_Entry : FuncId) (f_journal_Read : FuncId) (f_warehouseref35_Read : FuncId) (f_warehouselaw35_same : FuncId) (f_journal_Repair : FuncId) (f_warehouseref35_Repair : FuncId) (f_warehouseworld_SameBytes : FuncId) : AFunc := ⟨81, [.tmp 6],
  (.seq
  (.region [
    ⟨(some 6), .move (.c (.bool false)), none⟩])
  (.seq
  (.seq
  (.region [
    ⟨(some 15), .move (.t 0), none⟩,
    ⟨(some 16), .len (.t 15), none⟩,
    ⟨(some 17), .bin .gtr (.t 16) (.c (.int .i64 3000)), none⟩,
    ⟨(some 18), .move (.t 17), none⟩,
    ⟨(some 19), .move (.t 1), some (some 18, false)⟩,
    ⟨(some 20), .call f_warehouselaw35_light [(.t 19)], some (some 18, false)⟩,
    ⟨(some 21), .un .not (.t 20), some (some 18, false)⟩,
    ⟨(some 22), .pick (.t 18) (.c (.bool true)) (.t 21), none⟩,
    ⟨(some 23), .move (.t 22), none⟩,
    ⟨(some 24), .move (.t 2), some (some 23, false)⟩,
    ⟨(some 25), .len (.t 24), some (some 23, false)⟩,
    ⟨(some 26), .bin .gtr (.t 25) (.c (.int .i64 300)), some (some 23, false)⟩,
    ⟨(some 27), .pick (.t 23) (.c (.bool true)) (.t 26), none⟩])
  (.cond (.t 27)
    (.seq
    (.region [
      ⟨(some 28), .call f_warehouselaw35_known [], none⟩,
      ⟨(some 6), .move (.t 28), none⟩])
    .ret)
    .skip))
  (.seq
  (.region [
    ⟨(some 7), .move (.c .nil), none⟩])
  (.seq
  (.seq
  (.region [
    ⟨(some 29), .move (.t 1), none⟩,
    ⟨(some 30), .len (.t 29), none⟩,
    ⟨(some 31), .move (.c (.int .i64 0)), none⟩])
  (.block 0
    (.loop
      (.seq
      (.region [
        ⟨(some 32), .bin .lss (.t 31) (.t 30), none⟩])
      (.seq
      (.cond (.t 32)
        .skip
        (.exit 0))
      (.seq
      (.block 1
        (.seq
        (.region [
          ⟨(some 33), .move (.t 31), none⟩,
          ⟨(some 8), .move (.t 33), none⟩])
        (.region [
          ⟨(some 34), .move (.t 7), none⟩,
          ⟨(some 35), .move (.t 1), none⟩,
          ⟨(some 36), .move (.t 8), none⟩,
          ⟨(some 37), .indexAddr 1 (.t 35) (.t 36), none⟩,
          ⟨(some 38), .load false 1 (.t 37), none⟩,
          ⟨(some 39), .call f_warehouseref35_Entry [(.t 38)], none⟩,
          ⟨(some 40), .append 1 1 [(.int .u8 0)] (.t 34) (.t 39), none⟩,
          ⟨(some 7), .move (.t 40), none⟩])))
      (.region [
        ⟨(some 41), .bin .add (.t 31) (.c (.int .i64 1)), none⟩,
        ⟨(some 31), .move (.t 41), none⟩])))))))
  (.seq
  (.seq
  (.seq
  (.region [
    ⟨(some 42), .move (.t 0), none⟩,
    ⟨(some 43), .move (.t 7), none⟩,
    ⟨(some 44), .move (.t 2), none⟩,
    ⟨(some 45), .append 1 1 [(.int .u8 0)] (.t 43) (.t 44), none⟩,
    ⟨(some 46), .buildSliceO 1 2 [.nil] [(0, (.t 42)), (1, (.t 45))], none⟩,
    ⟨(some 47), .len (.t 46), none⟩,
    ⟨(some 48), .move (.c (.int .i64 0)), none⟩])
  .ghost)
  (.block 2
    (.loop
      (.seq
      (.region [
        ⟨(some 49), .bin .lss (.t 48) (.t 47), none⟩])
      (.seq
      (.cond (.t 49)
        .skip
        (.exit 2))
      (.seq
      (.block 3
        (.seq
        (.region [
          ⟨(some 50), .indexAddr 1 (.t 46) (.t 48), none⟩,
          ⟨(some 51), .load false 1 (.t 50), none⟩,
          ⟨(some 10), .move (.t 51), none⟩])
        (.seq
        (.region [
          ⟨(some 53), .move (.t 10), none⟩,
          ⟨(some 54), .call f_journal_Read [(.t 53)], none⟩,
          ⟨(some 52), .move (.t 54), none⟩,
          ⟨(some 55), .extract (.t 52) 0, none⟩,
          ⟨(some 56), .extract (.t 52) 1, none⟩,
          ⟨(some 11), .move (.t 55), none⟩,
          ⟨(some 12), .move (.t 56), none⟩])
        (.seq
        (.region [
          ⟨(some 58), .move (.t 10), none⟩,
          ⟨(some 59), .call f_warehouseref35_Read [(.t 58)], none⟩,
          ⟨(some 57), .move (.t 59), none⟩,
          ⟨(some 60), .extract (.t 57) 0, none⟩,
          ⟨(some 61), .extract (.t 57) 1, none⟩,
          ⟨(some 13), .move (.t 60), none⟩,
          ⟨(some 14), .move (.t 61), none⟩])
        (.seq
        (.region [
          ⟨(some 62), .move (.t 12), none⟩,
          ⟨(some 63), .move (.t 14), none⟩,
          ⟨(some 64), .bin .neq (.t 62) (.t 63), none⟩,
          ⟨(some 65), .move (.t 64), none⟩,
          ⟨(some 66), .move (.t 11), some (some 65, false)⟩,
          ⟨(some 67), .move (.t 13), some (some 65, false)⟩,
          ⟨(some 68), .call f_warehouselaw35_same [(.t 66), (.t 67)], some (some 65, false)⟩,
          ⟨(some 69), .un .not (.t 68), some (some 65, false)⟩,
          ⟨(some 70), .pick (.t 65) (.c (.bool true)) (.t 69), none⟩,
          ⟨(some 71), .move (.t 70), none⟩,
          ⟨(some 72), .move (.t 10), some (some 71, false)⟩,
          ⟨(some 73), .call f_journal_Repair [(.t 72)], some (some 71, false)⟩,
          ⟨(some 74), .move (.t 10), some (some 71, false)⟩,
          ⟨(some 75), .call f_warehouseref35_Repair [(.t 74)], some (some 71, false)⟩,
          ⟨(some 76), .call f_warehouseworld_SameBytes [(.t 73), (.t 75)], some (some 71, false)⟩,
          ⟨(some 77), .un .not (.t 76), some (some 71, false)⟩,
          ⟨(some 78), .pick (.t 71) (.c (.bool true)) (.t 77), none⟩])
        (.cond (.t 78)
          (.seq
          (.region [
            ⟨(some 6), .move (.c (.bool false)), none⟩])
          .ret)
          .skip))))))
      (.seq
      (.region [
        ⟨(some 79), .bin .add (.t 48) (.c (.int .i64 1)), none⟩,
        ⟨(some 48), .move (.t 79), none⟩])
      .ghost)))))))
  (.seq
  (.region [
    ⟨(some 80), .call f_warehouselaw35_known [], none⟩,
    ⟨(some 6), .move (.t 80), none⟩])
  .ret))))))⟩

structure F_warehouselaw35_JournalReads (P : Program) where
  id : FuncId
  warehouselaw35_light : F_warehouselaw35_light P
  warehouselaw35_known : F_warehouselaw35_known P
  warehouseref35_Entry : F_warehouseref35_Entry P
  journal_Read : F_journal_Read P
  warehouseref35_Read : F_warehouseref35_Read P
  warehouselaw35_same : F_warehouselaw35_same P
  journal_Repair : F_journal_Repair P
  warehouseref35_Repair : F_warehouseref35_Repair P
  warehouseworld_SameBytes : F_warehouseworld_SameBytes P
  has : Has P id [46, 100048] (c_warehouselaw35_JournalReads warehouselaw35_light.id warehouselaw35_known.id warehouseref35_Entry.id journal_Read.id warehouseref35_Read.id warehouselaw35_same.id journal_Repair.id warehouseref35_Repair.id warehouseworld_SameBytes.id)

def c_warehouselaw35_JournalBack (f_warehouselaw35_light : FuncId) (f_warehouselaw35_known : FuncId) (f_journal_Append : FuncId) (f_journal_Read : FuncId) (f_warehouselaw35_same : FuncId) : AFunc := ⟨48, [.tmp 2],
  (.seq
  (.region [
    ⟨(some 2), .move (.c (.bool false)), none⟩])
  (.seq
  (.seq
  (.region [
    ⟨(some 9), .move (.t 0), none⟩,
    ⟨(some 10), .call f_warehouselaw35_light [(.t 9)], none⟩,
    ⟨(some 11), .un .not (.t 10), none⟩])
  (.cond (.t 11)
    (.seq
    (.region [
      ⟨(some 12), .call f_warehouselaw35_known [], none⟩,
      ⟨(some 2), .move (.t 12), none⟩])
    .ret)
    .skip))
  (.seq
  (.region [
    ⟨(some 3), .move (.c .nil), none⟩])
  (.seq
  (.seq
  (.region [
    ⟨(some 13), .move (.t 0), none⟩,
    ⟨(some 14), .len (.t 13), none⟩,
    ⟨(some 15), .move (.c (.int .i64 0)), none⟩])
  (.block 0
    (.loop
      (.seq
      (.region [
        ⟨(some 16), .bin .lss (.t 15) (.t 14), none⟩])
      (.seq
      (.cond (.t 16)
        .skip
        (.exit 0))
      (.seq
      (.block 1
        (.seq
        (.region [
          ⟨(some 17), .move (.t 15), none⟩,
          ⟨(some 4), .move (.t 17), none⟩])
        (.seq
        (.region [
          ⟨(some 19), .move (.t 3), none⟩,
          ⟨(some 20), .move (.t 0), none⟩,
          ⟨(some 21), .move (.t 4), none⟩,
          ⟨(some 22), .indexAddr 1 (.t 20) (.t 21), none⟩,
          ⟨(some 23), .load false 1 (.t 22), none⟩,
          ⟨(some 24), .call f_journal_Append [(.t 19), (.t 23)], none⟩,
          ⟨(some 18), .move (.t 24), none⟩,
          ⟨(some 25), .extract (.t 18) 0, none⟩,
          ⟨(some 26), .extract (.t 18) 1, none⟩,
          ⟨(some 5), .move (.t 25), none⟩,
          ⟨(some 6), .move (.t 26), none⟩])
        (.seq
        (.seq
        (.region [
          ⟨(some 27), .move (.t 6), none⟩,
          ⟨(some 28), .bin .neq (.t 27) (.c (.int .i64 0)), none⟩])
        (.cond (.t 28)
          (.seq
          (.region [
            ⟨(some 2), .move (.c (.bool false)), none⟩])
          .ret)
          .skip))
        (.region [
          ⟨(some 29), .move (.t 5), none⟩,
          ⟨(some 3), .move (.t 29), none⟩])))))
      (.region [
        ⟨(some 30), .bin .add (.t 15) (.c (.int .i64 1)), none⟩,
        ⟨(some 15), .move (.t 30), none⟩])))))))
  (.seq
  (.region [
    ⟨(some 32), .move (.t 3), none⟩,
    ⟨(some 33), .call f_journal_Read [(.t 32)], none⟩,
    ⟨(some 31), .move (.t 33), none⟩,
    ⟨(some 34), .extract (.t 31) 0, none⟩,
    ⟨(some 35), .extract (.t 31) 1, none⟩,
    ⟨(some 7), .move (.t 34), none⟩,
    ⟨(some 8), .move (.t 35), none⟩])
  (.seq
  (.region [
    ⟨(some 36), .move (.t 8), none⟩,
    ⟨(some 37), .move (.t 3), none⟩,
    ⟨(some 38), .len (.t 37), none⟩,
    ⟨(some 39), .bin .eql (.t 36) (.t 38), none⟩,
    ⟨(some 40), .move (.t 39), none⟩,
    ⟨(some 41), .move (.t 7), some (some 40, true)⟩,
    ⟨(some 42), .move (.t 0), some (some 40, true)⟩,
    ⟨(some 43), .call f_warehouselaw35_same [(.t 41), (.t 42)], some (some 40, true)⟩,
    ⟨(some 44), .pick (.t 40) (.t 43) (.c (.bool false)), none⟩,
    ⟨(some 45), .move (.t 44), none⟩,
    ⟨(some 46), .call f_warehouselaw35_known [], some (some 45, true)⟩,
    ⟨(some 47), .pick (.t 45) (.t 46) (.c (.bool false)), none⟩,
    ⟨(some 2), .move (.t 47), none⟩])
  .ret))))))⟩

structure F_warehouselaw35_JournalBack (P : Program) where
  id : FuncId
  warehouselaw35_light : F_warehouselaw35_light P
  warehouselaw35_known : F_warehouselaw35_known P
  journal_Append : F_journal_Append P
  journal_Read : F_journal_Read P
  warehouselaw35_same : F_warehouselaw35_same P
  has : Has P id [] (c_warehouselaw35_JournalBack warehouselaw35_light.id warehouselaw35_known.id journal_Append.id journal_Read.id warehouselaw35_same.id)

def c_warehouselaw35_JournalTears (f_warehouselaw35_light : FuncId) (f_warehouselaw35_known : FuncId) (f_warehouseref35_Entry : FuncId) (f_warehouseworld_Place : FuncId) (f_journal_Read : FuncId) (f_journal_Repair : FuncId) (f_journal_Append : FuncId) (f_warehouselaw35_same : FuncId) : AFunc := ⟨116, [.tmp 6],
  (.seq
  (.region [
    ⟨(some 6), .move (.c (.bool false)), none⟩])
  (.seq
  (.seq
  (.region [
    ⟨(some 21), .move (.t 0), none⟩,
    ⟨(some 22), .call f_warehouselaw35_light [(.t 21)], none⟩,
    ⟨(some 23), .un .not (.t 22), none⟩,
    ⟨(some 24), .move (.t 23), none⟩,
    ⟨(some 25), .move (.t 2), some (some 24, false)⟩,
    ⟨(some 26), .len (.t 25), some (some 24, false)⟩,
    ⟨(some 27), .bin .gtr (.t 26) (.c (.int .i64 300)), some (some 24, false)⟩,
    ⟨(some 28), .pick (.t 24) (.c (.bool true)) (.t 27), none⟩])
  (.cond (.t 28)
    (.seq
    (.region [
      ⟨(some 29), .call f_warehouselaw35_known [], none⟩,
      ⟨(some 6), .move (.t 29), none⟩])
    .ret)
    .skip))
  (.seq
  (.region [
    ⟨(some 7), .move (.c .nil), none⟩])
  (.seq
  (.region [
    ⟨(some 8), .move (.c .nil), none⟩])
  (.seq
  (.seq
  (.region [
    ⟨(some 30), .move (.t 0), none⟩,
    ⟨(some 31), .len (.t 30), none⟩,
    ⟨(some 32), .move (.c (.int .i64 0)), none⟩])
  (.block 0
    (.loop
      (.seq
      (.region [
        ⟨(some 33), .bin .lss (.t 32) (.t 31), none⟩])
      (.seq
      (.cond (.t 33)
        .skip
        (.exit 0))
      (.seq
      (.block 1
        (.seq
        (.region [
          ⟨(some 34), .move (.t 32), none⟩,
          ⟨(some 9), .move (.t 34), none⟩])
        (.seq
        (.region [
          ⟨(some 35), .move (.t 7), none⟩,
          ⟨(some 36), .move (.t 0), none⟩,
          ⟨(some 37), .move (.t 9), none⟩,
          ⟨(some 38), .indexAddr 1 (.t 36) (.t 37), none⟩,
          ⟨(some 39), .load false 1 (.t 38), none⟩,
          ⟨(some 40), .call f_warehouseref35_Entry [(.t 39)], none⟩,
          ⟨(some 41), .append 1 1 [(.int .u8 0)] (.t 35) (.t 40), none⟩,
          ⟨(some 7), .move (.t 41), none⟩])
        (.region [
          ⟨(some 42), .move (.t 8), none⟩,
          ⟨(some 43), .move (.t 7), none⟩,
          ⟨(some 44), .len (.t 43), none⟩,
          ⟨(some 45), .buildSlice 1 1 [(.int .i64 0)] [(0, (.t 44))], none⟩,
          ⟨(some 46), .append 1 8 [(.int .i64 0)] (.t 42) (.t 45), none⟩,
          ⟨(some 8), .move (.t 46), none⟩]))))
      (.region [
        ⟨(some 47), .bin .add (.t 32) (.c (.int .i64 1)), none⟩,
        ⟨(some 32), .move (.t 47), none⟩])))))))
  (.seq
  (.seq
  (.region [
    ⟨(some 48), .move (.t 1), none⟩,
    ⟨(some 49), .move (.t 7), none⟩,
    ⟨(some 50), .len (.t 49), none⟩,
    ⟨(some 51), .bin .add (.t 50) (.c (.int .i64 1)), none⟩,
    ⟨(some 52), .call f_warehouseworld_Place [(.t 48), (.t 51)], none⟩,
    ⟨(some 10), .move (.t 52), none⟩])
  .ghost)
  (.seq
  (.region [
    ⟨(some 11), .move (.c (.int .i64 0)), none⟩])
  (.seq
  (.seq
  (.region [
    ⟨(some 53), .move (.t 8), none⟩,
    ⟨(some 54), .len (.t 53), none⟩,
    ⟨(some 55), .move (.c (.int .i64 0)), none⟩])
  (.block 2
    (.loop
      (.seq
      (.region [
        ⟨(some 56), .bin .lss (.t 55) (.t 54), none⟩])
      (.seq
      (.cond (.t 56)
        .skip
        (.exit 2))
      (.seq
      (.block 3
        (.seq
        (.region [
          ⟨(some 57), .indexAddr 1 (.t 53) (.t 55), none⟩,
          ⟨(some 58), .load false 1 (.t 57), none⟩,
          ⟨(some 13), .move (.t 58), none⟩])
        (.seq
        (.region [
          ⟨(some 59), .move (.t 13), none⟩,
          ⟨(some 60), .move (.t 10), none⟩,
          ⟨(some 61), .bin .leq (.t 59) (.t 60), none⟩])
        (.cond (.t 61)
          (.region [
            ⟨(some 62), .move (.t 11), none⟩,
            ⟨(some 63), .bin .add (.t 62) (.c (.int .i64 1)), none⟩,
            ⟨(some 11), .move (.t 63), none⟩])
          .skip))))
      (.region [
        ⟨(some 64), .bin .add (.t 55) (.c (.int .i64 1)), none⟩,
        ⟨(some 55), .move (.t 64), none⟩])))))))
  (.seq
  (.region [
    ⟨(some 66), .move (.t 7), none⟩,
    ⟨(some 67), .move (.t 10), none⟩,
    ⟨(some 68), .slice 1 (.t 66) none (some (.t 67)), none⟩,
    ⟨(some 69), .call f_journal_Read [(.t 68)], none⟩,
    ⟨(some 65), .move (.t 69), none⟩,
    ⟨(some 70), .extract (.t 65) 0, none⟩,
    ⟨(some 71), .extract (.t 65) 1, none⟩,
    ⟨(some 14), .move (.t 70), none⟩,
    ⟨(some 15), .move (.t 71), none⟩])
  (.seq
  (.region [
    ⟨(some 72), .move (.t 7), none⟩,
    ⟨(some 73), .move (.t 10), none⟩,
    ⟨(some 74), .slice 1 (.t 72) none (some (.t 73)), none⟩,
    ⟨(some 75), .call f_journal_Repair [(.t 74)], none⟩,
    ⟨(some 16), .move (.t 75), none⟩])
  (.seq
  (.region [
    ⟨(some 77), .move (.t 16), none⟩,
    ⟨(some 78), .move (.t 2), none⟩,
    ⟨(some 79), .call f_journal_Append [(.t 77), (.t 78)], none⟩,
    ⟨(some 76), .move (.t 79), none⟩,
    ⟨(some 80), .extract (.t 76) 0, none⟩,
    ⟨(some 81), .extract (.t 76) 1, none⟩,
    ⟨(some 17), .move (.t 80), none⟩,
    ⟨(some 18), .move (.t 81), none⟩])
  (.seq
  (.region [
    ⟨(some 83), .move (.t 17), none⟩,
    ⟨(some 84), .call f_journal_Read [(.t 83)], none⟩,
    ⟨(some 82), .move (.t 84), none⟩,
    ⟨(some 85), .extract (.t 82) 0, none⟩,
    ⟨(some 86), .extract (.t 82) 1, none⟩,
    ⟨(some 19), .move (.t 85), none⟩,
    ⟨(some 20), .move (.t 86), none⟩])
  (.seq
  (.region [
    ⟨(some 87), .move (.t 14), none⟩,
    ⟨(some 88), .move (.t 0), none⟩,
    ⟨(some 89), .move (.t 11), none⟩,
    ⟨(some 90), .slice 1 (.t 88) none (some (.t 89)), none⟩,
    ⟨(some 91), .call f_warehouselaw35_same [(.t 87), (.t 90)], none⟩,
    ⟨(some 92), .move (.t 91), none⟩,
    ⟨(some 93), .move (.t 18), some (some 92, true)⟩,
    ⟨(some 94), .bin .eql (.t 93) (.c (.int .i64 0)), some (some 92, true)⟩,
    ⟨(some 95), .pick (.t 92) (.t 94) (.c (.bool false)), none⟩,
    ⟨(some 96), .move (.t 95), none⟩,
    ⟨(some 97), .move (.t 20), some (some 96, true)⟩,
    ⟨(some 98), .move (.t 17), some (some 96, true)⟩,
    ⟨(some 99), .len (.t 98), some (some 96, true)⟩,
    ⟨(some 100), .bin .eql (.t 97) (.t 99), some (some 96, true)⟩,
    ⟨(some 101), .pick (.t 96) (.t 100) (.c (.bool false)), none⟩,
    ⟨(some 102), .move (.t 101), none⟩,
    ⟨(some 103), .move (.t 19), some (some 102, true)⟩,
    ⟨(some 104), .move (.t 0), some (some 102, true)⟩,
    ⟨(some 105), .move (.t 11), some (some 102, true)⟩,
    ⟨(some 106), .slice 1 (.t 104) none (some (.t 105)), some (some 102, true)⟩,
    ⟨(some 107), .append 1 24 [.nil] (.c .nil) (.t 106), some (some 102, true)⟩,
    ⟨(some 108), .move (.t 2), some (some 102, true)⟩,
    ⟨(some 109), .buildSlice 1 1 [.nil] [(0, (.t 108))], some (some 102, true)⟩,
    ⟨(some 110), .append 1 24 [.nil] (.t 107) (.t 109), some (some 102, true)⟩,
    ⟨(some 111), .call f_warehouselaw35_same [(.t 103), (.t 110)], some (some 102, true)⟩,
    ⟨(some 112), .pick (.t 102) (.t 111) (.c (.bool false)), none⟩,
    ⟨(some 113), .move (.t 112), none⟩,
    ⟨(some 114), .call f_warehouselaw35_known [], some (some 113, true)⟩,
    ⟨(some 115), .pick (.t 113) (.t 114) (.c (.bool false)), none⟩,
    ⟨(some 6), .move (.t 115), none⟩])
  .ret)))))))))))))⟩

structure F_warehouselaw35_JournalTears (P : Program) where
  id : FuncId
  warehouselaw35_light : F_warehouselaw35_light P
  warehouselaw35_known : F_warehouselaw35_known P
  warehouseref35_Entry : F_warehouseref35_Entry P
  warehouseworld_Place : F_warehouseworld_Place P
  journal_Read : F_journal_Read P
  journal_Repair : F_journal_Repair P
  journal_Append : F_journal_Append P
  warehouselaw35_same : F_warehouselaw35_same P
  has : Has P id [100010] (c_warehouselaw35_JournalTears warehouselaw35_light.id warehouselaw35_known.id warehouseref35_Entry.id warehouseworld_Place.id journal_Read.id journal_Repair.id journal_Append.id warehouselaw35_same.id)

def c_warehouselaw35_JournalDamage (f_warehouselaw35_light : FuncId) (f_warehouselaw35_known : FuncId) (f_warehouseref35_Entry : FuncId) (f_warehouseworld_Place : FuncId) (f_journal_Read : FuncId) (f_warehouseref35_Read : FuncId) (f_warehouselaw35_same : FuncId) : AFunc := ⟨116, [.tmp 6],
  (.seq
  (.region [
    ⟨(some 6), .move (.c (.bool false)), none⟩])
  (.seq
  (.seq
  (.region [
    ⟨(some 17), .move (.t 0), none⟩,
    ⟨(some 18), .call f_warehouselaw35_light [(.t 17)], none⟩,
    ⟨(some 19), .un .not (.t 18), none⟩,
    ⟨(some 20), .move (.t 19), none⟩,
    ⟨(some 21), .move (.t 0), some (some 20, false)⟩,
    ⟨(some 22), .len (.t 21), some (some 20, false)⟩,
    ⟨(some 23), .bin .eql (.t 22) (.c (.int .i64 0)), some (some 20, false)⟩,
    ⟨(some 24), .pick (.t 20) (.c (.bool true)) (.t 23), none⟩,
    ⟨(some 25), .move (.t 24), none⟩,
    ⟨(some 26), .move (.t 2), some (some 25, false)⟩,
    ⟨(some 27), .bin .eql (.t 26) (.c (.int .u8 0)), some (some 25, false)⟩,
    ⟨(some 28), .pick (.t 25) (.c (.bool true)) (.t 27), none⟩])
  (.cond (.t 28)
    (.seq
    (.region [
      ⟨(some 29), .call f_warehouselaw35_known [], none⟩,
      ⟨(some 6), .move (.t 29), none⟩])
    .ret)
    .skip))
  (.seq
  (.region [
    ⟨(some 7), .move (.c .nil), none⟩])
  (.seq
  (.seq
  (.region [
    ⟨(some 30), .move (.t 0), none⟩,
    ⟨(some 31), .len (.t 30), none⟩,
    ⟨(some 32), .move (.c (.int .i64 0)), none⟩])
  (.block 0
    (.loop
      (.seq
      (.region [
        ⟨(some 33), .bin .lss (.t 32) (.t 31), none⟩])
      (.seq
      (.cond (.t 33)
        .skip
        (.exit 0))
      (.seq
      (.block 1
        (.seq
        (.region [
          ⟨(some 34), .move (.t 32), none⟩,
          ⟨(some 8), .move (.t 34), none⟩])
        (.region [
          ⟨(some 35), .move (.t 7), none⟩,
          ⟨(some 36), .move (.t 0), none⟩,
          ⟨(some 37), .move (.t 8), none⟩,
          ⟨(some 38), .indexAddr 1 (.t 36) (.t 37), none⟩,
          ⟨(some 39), .load false 1 (.t 38), none⟩,
          ⟨(some 40), .call f_warehouseref35_Entry [(.t 39)], none⟩,
          ⟨(some 41), .append 1 1 [(.int .u8 0)] (.t 35) (.t 40), none⟩,
          ⟨(some 7), .move (.t 41), none⟩])))
      (.region [
        ⟨(some 42), .bin .add (.t 32) (.c (.int .i64 1)), none⟩,
        ⟨(some 32), .move (.t 42), none⟩])))))))
  (.seq
  (.region [
    ⟨(some 43), .move (.t 1), none⟩,
    ⟨(some 44), .move (.t 7), none⟩,
    ⟨(some 45), .len (.t 44), none⟩,
    ⟨(some 46), .call f_warehouseworld_Place [(.t 43), (.t 45)], none⟩,
    ⟨(some 9), .move (.t 46), none⟩])
  (.seq
  (.seq
  (.region [
    ⟨(some 47), .move (.t 7), none⟩,
    ⟨(some 48), .move (.t 9), none⟩,
    ⟨(some 49), .indexAddr 1 (.t 47) (.t 48), none⟩,
    ⟨(some 50), .load false 1 (.t 49), none⟩,
    ⟨(some 51), .move (.t 2), none⟩,
    ⟨(some 52), .bin .xor (.t 50) (.t 51), none⟩,
    ⟨(some 53), .indexAddr 1 (.t 47) (.t 48), none⟩,
    ⟨none, .store 1 (.t 53) (.t 52), none⟩])
  .ghost)
  (.seq
  (.region [
    ⟨(some 55), .move (.t 7), none⟩,
    ⟨(some 56), .call f_journal_Read [(.t 55)], none⟩,
    ⟨(some 54), .move (.t 56), none⟩,
    ⟨(some 57), .extract (.t 54) 0, none⟩,
    ⟨(some 58), .extract (.t 54) 1, none⟩,
    ⟨(some 10), .move (.t 57), none⟩,
    ⟨(some 11), .move (.t 58), none⟩])
  (.seq
  (.region [
    ⟨(some 60), .move (.t 7), none⟩,
    ⟨(some 61), .call f_warehouseref35_Read [(.t 60)], none⟩,
    ⟨(some 59), .move (.t 61), none⟩,
    ⟨(some 62), .extract (.t 59) 0, none⟩,
    ⟨(some 63), .extract (.t 59) 1, none⟩,
    ⟨(some 12), .move (.t 62), none⟩,
    ⟨(some 13), .move (.t 63), none⟩])
  (.seq
  (.region [
    ⟨(some 14), .move (.c (.int .i64 0)), none⟩,
    ⟨(some 15), .move (.c (.int .i64 0)), none⟩])
  (.seq
  (.seq
  (.region [
    ⟨(some 64), .move (.t 0), none⟩,
    ⟨(some 65), .len (.t 64), none⟩,
    ⟨(some 66), .move (.c (.int .i64 0)), none⟩])
  (.block 2
    (.loop
      (.seq
      (.region [
        ⟨(some 67), .bin .lss (.t 66) (.t 65), none⟩])
      (.seq
      (.cond (.t 67)
        .skip
        (.exit 2))
      (.seq
      (.block 3
        (.seq
        (.region [
          ⟨(some 68), .move (.t 66), none⟩,
          ⟨(some 16), .move (.t 68), none⟩])
        (.seq
        (.region [
          ⟨(some 69), .move (.t 15), none⟩,
          ⟨(some 70), .bin .add (.t 69) (.c (.int .i64 8)), none⟩,
          ⟨(some 71), .move (.t 0), none⟩,
          ⟨(some 72), .move (.t 16), none⟩,
          ⟨(some 73), .indexAddr 1 (.t 71) (.t 72), none⟩,
          ⟨(some 74), .load false 1 (.t 73), none⟩,
          ⟨(some 75), .len (.t 74), none⟩,
          ⟨(some 76), .bin .add (.t 70) (.t 75), none⟩,
          ⟨(some 77), .move (.t 9), none⟩,
          ⟨(some 78), .bin .leq (.t 76) (.t 77), none⟩])
        (.cond (.t 78)
          (.seq
          (.region [
            ⟨(some 79), .move (.t 15), none⟩,
            ⟨(some 80), .move (.t 0), none⟩,
            ⟨(some 81), .move (.t 16), none⟩,
            ⟨(some 82), .indexAddr 1 (.t 80) (.t 81), none⟩,
            ⟨(some 83), .load false 1 (.t 82), none⟩,
            ⟨(some 84), .len (.t 83), none⟩,
            ⟨(some 85), .bin .add (.c (.int .i64 8)) (.t 84), none⟩,
            ⟨(some 86), .bin .add (.t 79) (.t 85), none⟩,
            ⟨(some 15), .move (.t 86), none⟩])
          (.region [
            ⟨(some 87), .move (.t 14), none⟩,
            ⟨(some 88), .bin .add (.t 87) (.c (.int .i64 1)), none⟩,
            ⟨(some 14), .move (.t 88), none⟩]))
          (.exit 2)))))
      (.region [
        ⟨(some 89), .bin .add (.t 66) (.c (.int .i64 1)), none⟩,
        ⟨(some 66), .move (.t 89), none⟩])))))))
  (.seq
  (.draw [
    (⟨(some 90), .move (.t 11), none⟩, []),
    (⟨(some 91), .move (.t 13), none⟩, []),
    (⟨(some 92), .bin .eql (.t 90) (.t 91), none⟩, []),
    (⟨(some 93), .move (.t 92), none⟩, []),
    (⟨(some 94), .move (.t 10), some (some 93, true)⟩, []),
    (⟨(some 95), .move (.t 12), some (some 93, true)⟩, []),
    (⟨(some 96), .call f_warehouselaw35_same [(.t 94), (.t 95)], some (some 93, true)⟩, []),
    (⟨(some 97), .pick (.t 93) (.t 96) (.c (.bool false)), none⟩, []),
    (⟨(some 98), .move (.t 97), none⟩, []),
    (⟨(some 99), .move (.t 10), some (some 98, true)⟩, []),
    (⟨(some 100), .len (.t 99), some (some 98, true)⟩, []),
    (⟨(some 101), .move (.t 14), some (some 98, true)⟩, []),
    (⟨(some 102), .bin .geq (.t 100) (.t 101), some (some 98, true)⟩, []),
    (⟨(some 103), .pick (.t 98) (.t 102) (.c (.bool false)), none⟩, []),
    (⟨(some 104), .move (.t 103), none⟩, []),
    (⟨(some 105), .move (.t 10), some (some 104, true)⟩, []),
    (⟨(some 106), .move (.t 14), some (some 104, true)⟩, []),
    (⟨(some 107), .slice 1 (.t 105) none (some (.t 106)), some (some 104, true)⟩, []),
    (⟨(some 108), .move (.t 0), some (some 104, true)⟩, []),
    (⟨(some 109), .move (.t 14), some (some 104, true)⟩, []),
    (⟨(some 110), .slice 1 (.t 108) none (some (.t 109)), some (some 104, true)⟩, []),
    (⟨(some 111), .call f_warehouselaw35_same [(.t 107), (.t 110)], some (some 104, true)⟩, []),
    (⟨(some 112), .pick (.t 104) (.t 111) (.c (.bool false)), none⟩, []),
    (⟨(some 113), .move (.t 112), none⟩, []),
    (⟨(some 114), .call f_warehouselaw35_known [], some (some 113, true)⟩, []),
    (⟨(some 115), .pick (.t 113) (.t 114) (.c (.bool false)), none⟩, []),
    (⟨(some 6), .move (.t 115), none⟩, [])])
  .ret)))))))))))⟩

structure F_warehouselaw35_JournalDamage (P : Program) where
  id : FuncId
  warehouselaw35_light : F_warehouselaw35_light P
  warehouselaw35_known : F_warehouselaw35_known P
  warehouseref35_Entry : F_warehouseref35_Entry P
  warehouseworld_Place : F_warehouseworld_Place P
  journal_Read : F_journal_Read P
  warehouseref35_Read : F_warehouseref35_Read P
  warehouselaw35_same : F_warehouselaw35_same P
  has : Has P id [100053] (c_warehouselaw35_JournalDamage warehouselaw35_light.id warehouselaw35_known.id warehouseref35_Entry.id warehouseworld_Place.id journal_Read.id warehouseref35_Read.id warehouselaw35_same.id)

end Go.AW

namespace Go.AW
variable [Draws]
open Go.RowKit
inductive Sh where
  | bool
  | int (k : IntKind)
  | str
  | slice (fs : List Sh)

def shapeFields (P : Program) (sh : TypeId → Option (List Sh)) : List Field → Nat → Option (List Sh)
  | [], _ => some []
  | f :: r, off => if f.offset = off then match sh f.type, shapeFields P sh r (off + P.cellsOf f.type) with
      | some a, some b => if a.length = P.cellsOf f.type then some (a ++ b) else none
      | _, _ => none
    else none

def shapeOf (P : Program) : Nat → TypeId → Option (List Sh)
  | 0, _ => none
  | n + 1, t => match P.underlying t with
    | some .bool => some [.bool]
    | some (.int k) => some [.int k]
    | some .string => some [.str]
    | some (.slice e) => match shapeOf P n e with
      | some l => if l.length = P.cellsOf e ∧ P.cellsOf e ≠ 0 then some [.slice l] else none
      | none => none
    | some (.struct fs) => match shapeFields P (shapeOf P n) fs.toList 0 with
      | some l => if l.length = P.cellsOf t then some l else none
      | none => none
    | _ => none

inductive ShOk : Sh → AVal → Prop where
  | bool (b : Bool) : ShOk .bool (.bool b)
  | int (k : IntKind) (n : Int) (h : (Lit.int k n).wf = true) : ShOk (.int k) (.int k n)
  | str (s : ByteArray) (h : s.size ≤ maxLen) : ShOk .str (.str s)
  | list (fs : List Sh) (es : List (List AVal)) (hb : es.length ≤ maxLen) (hl : ∀ e ∈ es, e.length = fs.length)
      (h : ∀ (e : List AVal) (i : Nat) (f : Sh) (d : AVal), e ∈ es → fs[i]? = some f → e[i]? = some d → ShOk f d) : ShOk (.slice fs) (.list false fs.length es)

def allC (w : World) (b : Nat) : Nat :=
  match w.heap[b]? with
  | some (.cells cells _ _) => cells.size
  | _ => 0

theorem allC_cell {w : World} {b i : Nat} {v : Value} (h : w.cell? ⟨b, i, none⟩ = some v) : i < allC w b := by
  unfold World.cell? at h
  unfold allC
  simp only [] at h
  split at h
  · rename_i hh
    rw [hh]
    simp only []
    exact (Array.getElem?_eq_some_iff.1 h).1
  · cases h

theorem ShOk.isCell {s : Sh} {a : AVal} (h : ShOk s a) : a.isCell = true := by cases h <;> rfl

section
variable {H : Type} {enc : TypeId × Value → H} {P : Program} {w : World} {spare : Nat → Bool} {held : Bool}
theorem cells?_get {a : Addr} {n : Nat} {cs : List Value} (h : w.cells? 0 a n = some cs) : cs.length = n ∧ ∀ i, i < n → w.cell? (a.add i) = cs[i]? := by
  unfold World.cells? at h
  rw [if_pos (Nat.zero_le _)] at h
  exact ⟨by simpa using Go.mapM_some_length h, fun i hi => Go.mapM_some_get h i i (by simp [hi])⟩

def RdAll (w : World) (shs : List Sh) (cs : List Value) : Prop :=
  ∃ asv : List AVal, asv.length = cs.length ∧ shs.length = cs.length ∧ (∀ (i : Nat) (s : Sh) (a : AVal), shs[i]? = some s → asv[i]? = some a → ShOk s a) ∧
    ∀ (i : Nat) (a : AVal) (c : Value), asv[i]? = some a → cs[i]? = some c → Rd (allC w) w a c

theorem RdAll.one {s : Sh} {a : AVal} {c : Value} (h : ShOk s a) (hr : Rd (allC w) w a c) : RdAll w [s] [c] := by
  refine ⟨[a], rfl, rfl, fun i s' a' h1 h2 => ?_, fun i a' c' h1 h2 => ?_⟩
  · cases i with
    | zero => simp at h1 h2; subst h1 h2; exact h
    | succ i => simp at h1
  · cases i with
    | zero => simp at h1 h2; subst h1 h2; exact hr
    | succ i => simp at h1

theorem RdAll.append {s1 s2 : List Sh} {c1 c2 : List Value} (h1 : RdAll w s1 c1) (h2 : RdAll w s2 c2) : RdAll w (s1 ++ s2) (c1 ++ c2) := by
  obtain ⟨a1, l1, m1, o1, r1⟩ := h1
  obtain ⟨a2, l2, m2, o2, r2⟩ := h2
  refine ⟨a1 ++ a2, by simp [l1, l2], by simp [m1, m2], fun i s a hs ha => ?_, fun i a c ha hc => ?_⟩
  · by_cases hi : i < c1.length
    · rw [List.getElem?_append_left (by omega)] at hs ha
      exact o1 i s a hs ha
    · rw [List.getElem?_append_right (by omega)] at hs ha
      rw [m1] at hs; rw [l1] at ha
      exact o2 _ s a hs ha
  · by_cases hi : i < c1.length
    · rw [List.getElem?_append_left (by omega)] at ha hc
      exact r1 i a c ha hc
    · rw [List.getElem?_append_right (by omega)] at ha hc
      rw [l1] at ha
      exact r2 _ a c ha hc

theorem RdAll.nil : RdAll w [] [] := ⟨[], rfl, rfl, fun i s a h => by simp at h, fun i a c h => by simp at h⟩

theorem open_fields {sh : TypeId → Option (List Sh)} (tr : Field → List Value → Prop) (htr : ∀ (f : Field) (cs : List Value) (l : List Sh), tr f cs → sh f.type = some l → RdAll w l cs) (cs : List Value) :
    ∀ (fs : List Field) (off : Nat) (l : List Sh), shapeFields P sh fs off = some l → (∀ f ∈ fs, tr f ((cs.drop f.offset).take (P.cellsOf f.type))) → off + l.length = cs.length → RdAll w l (cs.drop off)
  | [], off, l, h, _, hl => by
    simp only [shapeFields, Option.some.injEq] at h; subst h
    have : cs.drop off = [] := List.drop_eq_nil_of_le (by simp at hl; omega)
    rw [this]; exact .nil
  | f :: r, off, l, h, ht, hl => by
    simp only [shapeFields] at h
    split at h
    case isFalse => cases h
    rename_i ho
    split at h
    case h_2 => cases h
    rename_i a b h1 h2
    split at h
    case isFalse => cases h
    rename_i hlen
    cases h
    have hf := htr f _ _ (ht f (by simp)) h1
    have hr := open_fields tr htr cs r _ _ h2 (fun g hg => ht g (by simp [hg])) (by simp at hl; omega)
    rw [ho] at hf
    have := hf.append hr
    rwa [← List.drop_drop, List.take_append_drop] at this

theorem open_shape : ∀ (n : Nat) (fuel : Nat) (t : TypeId) (cs : List Value) (x : DataW H × List MemPlace) (l : List Sh), shapeOf P n t = some l → DataW.trod enc P w 0 spare held fuel t cs = some x → RdAll w l cs
  | 0, _, _, _, _, _, h, _ => by simp [shapeOf] at h
  | n + 1, fuel, t, cs, x, l, h, ht => by
    unfold shapeOf at h
    split at h
    · rename_i hu
      cases h
      cases fuel with
      | zero => simp [DataW.trod] at ht
      | succ m =>
        unfold DataW.trod at ht
        rw [hu] at ht
        split at ht <;> simp_all
        exact .one (.bool _) (.bool _)
    · rename_i k hu
      cases h
      cases fuel with
      | zero => simp [DataW.trod] at ht
      | succ m =>
        unfold DataW.trod at ht
        rw [hu] at ht
        split at ht <;> simp_all
        obtain ⟨⟨rfl, hw⟩, _⟩ := ht
        exact .one (.int _ _ hw) (.int _ _)
    · rename_i hu
      cases h
      cases fuel with
      | zero => simp [DataW.trod] at ht
      | succ m =>
        unfold DataW.trod at ht
        rw [hu] at ht
        split at ht <;> simp_all
        exact .one (.str _ ht.1) (.str _)
    · rename_i e hu
      split at h
      case h_2 => cases h
      rename_i fs hfs
      split at h
      case isFalse => cases h
      rename_i hlen'
      cases h
      have hlen := hlen'.1
      rcases DataW.trod_slice hu ht with ⟨rfl, _⟩ | ⟨a, len, cap, elems, rest, m, rfl, rfl, _, _, hl, hm, hel, hcell, _, _⟩
      · have hes : ShOk (.slice fs) (.list false fs.length []) := .list fs [] (Nat.zero_le _) (by simp) (by simp)
        exact .one hes (.list0 _ _ _ _ (by simp))
      · obtain ⟨b, off, spot⟩ := a
        have each : ∀ i, i < len → ∃ cells, w.cells? 0 ((Addr.mk b off spot).add (i * P.cellsOf e)) (P.cellsOf e) = some cells ∧ RdAll w fs cells := by
          intro i hi
          have h1 := hcell i hi
          rw [List.getElem?_eq_getElem (by omega), Option.bind_eq_some_iff] at h1
          obtain ⟨cells, h2, h3⟩ := h1
          exact ⟨cells, h2, open_shape n m e cells _ fs hfs h3⟩
        by_cases h0 : len = 0
        · subst h0
          have hes : ShOk (.slice fs) (.list false fs.length []) := .list fs [] (Nat.zero_le _) (by simp) (by simp)
          exact .one hes (.list0 _ _ _ _ (by simp))
        · by_cases hz : P.cellsOf e = 0
          · exact absurd hz hlen'.2
          · have hspot : spot = none := by
              obtain ⟨cells, h1, _⟩ := each 0 (by omega)
              obtain ⟨h2, h3⟩ := cells?_get h1
              have h4 := h3 0 (by omega)
              rw [List.getElem?_eq_getElem (by omega)] at h4
              have := World.cell?_spot h4
              simpa [Addr.add] using this
            subst hspot
            
            have hch : ∃ F : Nat → List AVal, ∀ i, i < len → (F i).length = fs.length ∧ (∀ (j : Nat) (s : Sh) (a : AVal), fs[j]? = some s → (F i)[j]? = some a → ShOk s a) ∧
                ∃ cells : List Value, cells.length = fs.length ∧ (∀ j, j < fs.length → w.cell? ⟨b, off + i * fs.length + j, none⟩ = cells[j]?) ∧ ∀ (j : Nat) (a : AVal) (c : Value), (F i)[j]? = some a → cells[j]? = some c → Rd (allC w) w a c := by
              refine ⟨fun i => if hi : i < len then Classical.choose (each i hi).choose_spec.2 else [], fun i hi => ?_⟩
              obtain ⟨h1, h2, h3, h4⟩ := Classical.choose_spec (each i hi).choose_spec.2
              have hc := (each i hi).choose_spec.1
              obtain ⟨h5, h6⟩ := cells?_get hc
              simp only [dif_pos hi]
              refine ⟨by omega, h3, (each i hi).choose, by omega, fun j hj => ?_, h4⟩
              rw [← h6 j (by omega)]
              rw [WideShapes.add_plain, WideShapes.add_plain, hlen]
            obtain ⟨F, hF⟩ := hch
            have hget : ∀ (i : Nat) (e' : List AVal), ((List.range len).map F)[i]? = some e' → i < len ∧ e' = F i := by
              intro i e' he
              by_cases hi : i < len
              · simp [hi] at he; exact ⟨hi, he.symm⟩
              · simp [hi] at he
            refine .one (a := .list false fs.length ((List.range len).map F)) (.list _ _ (by simp; omega) (fun e' he' => ?_) fun e' i f d he' hf hd => ?_) ?_
            · obtain ⟨i, hi, rfl⟩ := List.mem_map.1 he'
              exact (hF i (by simpa using hi)).1
            · obtain ⟨i', hi', rfl⟩ := List.mem_map.1 he'
              exact (hF i' (by simpa using hi')).2.1 i f d hf hd
            · have hcellv : ∀ i j, i < len → j < fs.length → ∃ v, w.cell? ⟨b, off + i * fs.length + j, none⟩ = some v := by
                intro i j hi hj
                obtain ⟨_, _, cells, h1, h2, _⟩ := hF i hi
                exact ⟨cells[j], by rw [h2 j hj, List.getElem?_eq_getElem (by omega)]⟩
              have := Rd.list (C := allC w) (w := w) false fs.length ((List.range len).map F) b off cap (fun i j => (w.cell? ⟨b, off + i * fs.length + j, none⟩).getD .nilIface) (by simp) (by simpa using hl)
                (fun e' he' => by obtain ⟨i, hi, rfl⟩ := List.mem_map.1 he'; exact (hF i (by simpa using hi)).1) ?_ ?_ ?_ ?_
              · simpa using this
              · obtain ⟨v, hv⟩ := hcellv (len - 1) (fs.length - 1) (by omega) (by omega)
                have h1 := allC_cell hv
                simp only [List.length_map, List.length_range]
                have h2 : len * fs.length = (len - 1) * fs.length + fs.length := by
                  rw [← Nat.succ_mul]; congr 1; omega
                omega
              · intro i j hi hj
                obtain ⟨v, hv⟩ := hcellv i j (by simpa using hi) hj
                rw [hv]; rfl
              · intro i j e' d he hd
                obtain ⟨hi, rfl⟩ := hget i e' he
                have hj : j < fs.length := by rw [← (hF i hi).1]; exact (List.getElem?_eq_some_iff.1 hd).1
                exact ((hF i hi).2.1 j _ d (List.getElem?_eq_getElem hj) hd).isCell
              · intro i j e' d he hd
                obtain ⟨hi, rfl⟩ := hget i e' he
                have hj : j < fs.length := by rw [← (hF i hi).1]; exact (List.getElem?_eq_some_iff.1 hd).1
                obtain ⟨_, _, cells, h1, h2, h3⟩ := hF i hi
                refine h3 j d _ hd ?_
                rw [← h2 j hj]
                obtain ⟨v, hv⟩ := hcellv i j hi hj
                rw [hv]; rfl
    · rename_i fs hu
      split at h
      case h_2 => cases h
      rename_i l' hl'
      split at h
      case isFalse => cases h
      rename_i hll
      cases h
      obtain ⟨xs, m, rfl, _, hlen, hxs, hf⟩ := DataW.trod_struct hu ht
      have := open_fields (P := P) (w := w) (sh := shapeOf P n) (fun f cs => ∃ y, DataW.trod enc P w 0 spare held m f.type cs = some y) (fun f cs l' ⟨y, hy⟩ hl => open_shape n m f.type cs y l' hl hy) cs fs.toList 0 _ hl' ?_ ?_
      · simpa using this
      · intro f hfm
        obtain ⟨i, hi, he⟩ := List.getElem_of_mem hfm
        have h1 := hf i f (by rw [← he]; simp)
        exact ⟨xs[i]'(by simp at hi; omega), by rw [h1]; exact List.getElem?_eq_getElem _⟩
      · omega
    · cases h

end
end Go.AW

namespace Go.AW
variable [Draws]
open Go.RowKit Go.ChangeShapes
def paramSh (P : Program) (n : Nat) (t : TypeId) : Option (Bool × List Sh) :=
  match P.underlying t with
  | some (.struct _) => (shapeOf P n t).map fun l => (true, l)
  | some (.array _ _) => none
  | _ => match shapeOf P n t with
    | some [s] => some (false, [s])
    | _ => none

def ArgOk : Bool × List Sh → AVal → Prop
  | (true, l), a => ∃ asv, a = .agg asv ∧ asv.length = l.length ∧ ∀ (i : Nat) (s : Sh) (c : AVal), l[i]? = some s → asv[i]? = some c → ShOk s c
  | (false, l), a => ∃ s, l = [s] ∧ ShOk s a

def ArgsOk : List (Bool × List Sh) → List AVal → Prop
  | [], [] => True
  | p :: ps, a :: asv => ArgOk p a ∧ ArgsOk ps asv
  | _, _ => False

def paramShs (P : Program) (n : Nat) : List TypeId → Option (List (Bool × List Sh))
  | [] => some []
  | t :: ts => match paramSh P n t, paramShs P n ts with
    | some p, some ps => some (p :: ps)
    | _, _ => none

section
variable {H : Type} {enc : TypeId × Value → H} {P : Program} {w : World} {τ : Nat → Option Loc}
theorem open_arg {n : Nat} {t : TypeId} {v : Value} {d : DataW H} {ps : List MemPlace} {p : Bool × List Sh} {base : Nat} (hp : paramSh P n t = some p) (hv : Value.okWide P w .any base t v)
    (h : DataW.Trod enc P w 0 (fun _ => true) true t v d ps) : ∃ a, ArgOk p a ∧ Rel (allC w) w τ [] a v := by
  obtain ⟨fuel, hf⟩ := h
  unfold paramSh at hp
  split at hp
  · rename_i fs hu
    simp only [Option.map_eq_some_iff] at hp
    obtain ⟨l, hl, rfl⟩ := hp
    obtain ⟨asv, h1, h2, h3, h4⟩ := open_shape n fuel t _ _ l hl hf
    unfold Value.okWide at hv
    rw [hu] at hv
    obtain ⟨cs, rfl, _⟩ := hv
    simp only [Value.cells] at h1 h2 h4
    exact ⟨.agg asv, ⟨asv, rfl, by omega, h3⟩, .agg asv cs (by simpa using h1) fun i c v hc hv => .rd (h4 i c v hc (by simpa using hv))⟩
  · cases hp
  · rename_i hns hna
    split at hp
    case h_2 => cases hp
    rename_i s hl
    cases hp
    obtain ⟨asv, h1, h2, h3, h4⟩ := open_shape n fuel t _ _ _ hl hf
    have hvc : v.cells.toList = [v] := by
      have : ∀ cs, v ≠ .agg cs := by
        rintro cs rfl
        unfold Value.okWide at hv
        split at hv
        · rename_i fs hu; exact hns fs hu
        · rename_i k e hu; exact hna k e hu
        · unfold Cell.okWide at hv
          split at hv <;> simp_all [Cell.ok]
      cases v <;> first | rfl | exact absurd rfl (this _)
    rw [hvc] at h1 h2 h4
    obtain ⟨a, rfl⟩ := List.length_eq_one_iff.1 h1
    exact ⟨a, ⟨s, rfl, h3 0 s a rfl rfl⟩, .rd (h4 0 a v rfl rfl)⟩

theorem open_args {n : Nat} {base : Nat} : ∀ (ts : List TypeId) (vs : List Value) (ds : List (DataW H)) (ps : List MemPlace) (shs : List (Bool × List Sh)), paramShs P n ts = some shs →
    (∀ (j : Nat) (t : TypeId) (v : Value), ts[j]? = some t → vs[j]? = some v → Value.okWide P w .any base t v) →
    DataW.TrodAll enc P w 0 (fun _ => true) true ts vs ds ps → ∃ asv, ArgsOk shs asv ∧ asv.length = vs.length ∧ ∀ (i : Nat) (a : AVal) (v : Value), asv[i]? = some a → vs[i]? = some v → Rel (allC w) w τ [] a v
  | [], vs, ds, ps, shs, hs, hv, h => by
    obtain ⟨rfl, rfl, rfl⟩ := trodAll_nil h
    simp only [paramShs, Option.some.injEq] at hs; subst hs
    exact ⟨[], trivial, rfl, fun i a v h => by simp at h⟩
  | t :: ts, vs, ds, ps, shs, hs, hv, h => by
    obtain ⟨v, vs', d, ds', p, q, rfl, rfl, rfl, h1, h2⟩ := trodAll_cons h
    simp only [paramShs] at hs
    split at hs
    case h_2 => cases hs
    rename_i sh shs' e1 e2
    cases hs
    obtain ⟨a, ha, hr⟩ := open_arg (τ := τ) e1 (hv 0 t v rfl rfl) h1
    obtain ⟨asv, has, hl, hrs⟩ := open_args ts vs' ds' q shs' e2 (fun j t' v' ht hv' => hv (j + 1) t' v' (by simpa using ht) (by simpa using hv')) h2
    refine ⟨a :: asv, ⟨ha, has⟩, by simp [hl], fun i a' v' h1 h2 => ?_⟩
    cases i with
    | zero => simp at h1 h2; subst h1 h2; exact hr
    | succ i => exact hrs i a' v' (by simpa using h1) (by simpa using h2)

theorem trodAll_below (hl : laidOutB P = true) {W W' : World} (hb : Below W.heap.size W W') : ∀ (ts : List TypeId) (vs : List Value) (ds : List (DataW H)) (ps : List MemPlace),
    (∀ t ∈ ts, P.readableRec t = true ∧ t < P.types.size) → DataW.TrodAll enc P W 0 (fun _ => true) true ts vs ds ps →
    DataW.TrodAll enc P W' 0 (fun b => decide (b < W.heap.size)) true ts vs ds ps
  | [], vs, ds, ps, _, h => by obtain ⟨rfl, rfl, rfl⟩ := trodAll_nil h; exact trodAll_mk0
  | t :: ts, vs, ds, ps, hr, h => by
    obtain ⟨v, vs', d, ds', p, q, rfl, rfl, rfl, h1, h2⟩ := trodAll_cons h
    have hlt : ∀ x ∈ p, x.block < W.heap.size := by obtain ⟨m, hm⟩ := h1; exact DataW.trod_lt m _ _ _ hm
    exact trodAll_cons_mk (Below.trod hl (hr t (by simp)).1 (hr t (by simp)).2 h1 hb hlt) (trodAll_below hl hb ts vs' ds' q (fun t' ht => hr t' (by simp [ht])) h2)

theorem calls_of_law {f : FuncId} {fn : Func} {c : Code} {args : Array Value} {asv : List AVal} (hfn : P.funcs[f]? = some fn) (hname : (fn.name == "runtime.NumGoroutine") = false) (hbody : fn.body = some c)
    (hlen : asv.length = args.size) (hrel : ∀ (i : Nat) (a : AVal) (v : Value), asv[i]? = some a → args[i]? = some v → Rel (allC w) w (fun _ => none) [] a v)
    (hlaw : ACalls P f asv [] (fun r _ => r = .bool true)) :
    Calls P f args w fun e w' => e = .returned (.bool true) ∧ Below w.heap.size w w' := by
  have hwf : WF (allC w) (fun _ => none) [] w := by
    refine ⟨fun id o h => by simp at h, fun id o h => by simp at h, fun id o l h => by simp at h, fun id l h => by simp at h, fun i j li lj h => by simp at h, fun b hb => ?_⟩
    unfold allC at hb
    split at hb
    · rename_i h
      exact lt_of_heap h
    · omega
  have h := hlaw (allC w) (fun _ => none) w args hwf hlen hrel
  have hcall : (callFunc f args).run P w = .ok (.enter f args) w := by
    simp only [callFunc, Sem.run_bind, run_program, Result.andThen_ok, hfn, hname, Bool.false_eq_true, if_false, hbody, Option.isNone_some, Sem.run_pure]
  unfold CallsX at h
  rw [hcall] at h
  refine Calls.mono h fun e w' => ?_
  rintro ⟨v, r, C', τ', H', rfl, rfl, hr, hst, hstep⟩
  refine ⟨?_, hst.fr.os, hst.fr.tape, hst.fr.output, hst.fr.size, fun k hk => hst.fr.prot k ⟨hk, ?_⟩⟩
  · cases hr with
    | rd hr => cases hr; rfl
  · rintro ⟨id, l, h1, _⟩
    exact absurd h1 (Nat.not_lt_zero _)

set_option maxRecDepth 100000 in

theorem lifted_of_law {C : Checked} {os : Os} {f : FuncId} {fn : Func} {s : ChangeSpec} {ob : List Nat} {af : AFunc} {n tb : Nat} {shs : List (Bool × List Sh)}
    (own : ownKnob C.prog.godebug = none) (started : os.Started) (noInit : C.prog.inits.idxOf? f = none) (hfn : C.prog.funcs[f]? = some fn)
    (witness : ∃ (w : World) (tape : Tape) (i : Input), w.os = os ∧ (w.forCall tape i).Shaped C.prog ∧ i.vars = [] ∧ Input.okWide C.prog (w.forCall tape i) .any w.heap.size f i ∧
      s.pre6 enc C.prog fn [] false (w.forCall tape i).memory i.args ∧ ({} : Assume).holds C.prog (lone (Frame.enter C.prog f i.args .normal) [] (w.forCall tape i)))
    (laid : laidOutB C.prog = true) (hread : (fn.params.toList.all fun t => C.prog.readableRec t && decide (t < C.prog.types.size)) = true)
    (hs : ∀ (ds : List (DataW H)), ds.length = fn.params.size → s.fn H ds = { results := [.lit (.bool true)], args := ds }) (hvars : s.vars = [])
    (hres : fn.resultTypes = #[tb]) (htb : C.prog.underlying tb = some .bool) (hsh : paramShs C.prog n fn.params.toList = some shs) (hhas : Has C.prog f ob af)
    (hlaw : ∀ asv, ArgsOk shs asv → ACalls C.prog f asv [] (fun r _ => r = .bool true)) :
    ReturnsInHanded {} C os f .any (s.pre6 enc C.prog fn [] false) (s.post enc C.prog fn false true false false) := by
  refine returnsInHanded_of_change (C := C) own started noInit hfn witness ?_
  intro W base args ds gs before hval hW _ _
  have hW' := hW
  obtain ⟨p, q, hA, hV, rfl, _, _⟩ := hW
  rw [hvars] at hV
  obtain ⟨rfl, rfl⟩ := trodVars_none hV
  obtain ⟨asv, has, hlen, hrel⟩ := open_args (τ := fun _ => none) (n := n) fn.params.toList args.toList ds p shs hsh (fun j t v h1 h2 => hval j t v (by simpa using h1) (by simpa using h2)) hA
  obtain ⟨fn', c, hfn', hname, hbody, _⟩ := hhas
  have e : fn' = fn := Option.some.inj (hfn'.symm.trans hfn)
  subst e
  have hlds : ds.length = fn'.params.size := by
    have : ∀ (ts : List TypeId) (vs : List Value) (ds : List (DataW H)) (ps : List MemPlace), DataW.TrodAll enc C.prog W 0 (fun _ => true) true ts vs ds ps → ds.length = ts.length := by
      intro ts
      induction ts with
      | nil => intro vs ds ps h; obtain ⟨_, rfl, _⟩ := trodAll_nil h; rfl
      | cons t ts ih =>
        intro vs ds ps h
        obtain ⟨_, _, _, _, _, _, _, rfl, _, _, h2⟩ := trodAll_cons h
        simp [ih _ _ _ h2]
    simpa using this _ _ _ _ hA
  refine (calls_of_law hfn hname hbody (by simpa using hlen) (fun i a v h1 h2 => hrel i a v h1 (by simpa using h2)) (hlaw asv has)).mono fun e W' ⟨he, bel⟩ => ?_
  subst he
  refine ⟨_, rfl, ds, [], _, [], p, [], hW', ?_, ?_, ?_, bel.frame _, fun h => by cases h⟩
  · rw [List.append_nil, hs ds hlds, hres]
    exact trodAll_mk1 (shut_bool htb _)
  · rw [List.append_nil, hs ds hlds]
    refine trodAll_below laid bel _ _ _ _ (fun t ht => ?_) hA
    have := List.all_eq_true.1 hread t ht
    simpa using this
  · rw [List.append_nil, hs ds hlds, hvars]
    rfl

end
theorem argsOk_cons {p : Bool × List Sh} {ps : List (Bool × List Sh)} {asv : List AVal} (h : ArgsOk (p :: ps) asv) : ∃ a as', asv = a :: as' ∧ ArgOk p a ∧ ArgsOk ps as' := by
  cases asv with
  | nil => exact h.elim
  | cons a asv => exact ⟨a, asv, rfl, h.1, h.2⟩

theorem argsOk_nil {asv : List AVal} (h : ArgsOk [] asv) : asv = [] := by
  cases asv with
  | nil => rfl
  | cons a asv => exact h.elim

theorem argOk_int {k : IntKind} {a : AVal} (h : ArgOk (false, [.int k]) a) : ∃ n, a = .int k n ∧ (Lit.int k n).wf = true := by
  obtain ⟨s, h1, h2⟩ := h
  cases h1
  cases h2 with
  | int _ n h => exact ⟨n, rfl, h⟩

def CellsOk : List Sh → List AVal → Prop
  | [], [] => True
  | s :: ss, a :: asv => ShOk s a ∧ CellsOk ss asv
  | _, _ => False

theorem cellsOk_of : ∀ (l : List Sh) (asv : List AVal), asv.length = l.length → (∀ (i : Nat) (s : Sh) (c : AVal), l[i]? = some s → asv[i]? = some c → ShOk s c) → CellsOk l asv
  | [], [], _, _ => trivial
  | s :: l, a :: asv, hl, h => ⟨h 0 s a rfl rfl, cellsOk_of l asv (by simpa using hl) fun i s c h1 h2 => h (i + 1) s c (by simpa using h1) (by simpa using h2)⟩
  | [], _ :: _, hl, _ => by simp at hl
  | _ :: _, [], hl, _ => by simp at hl

theorem shOk_slice {fs : List Sh} {a : AVal} (h : ShOk (.slice fs) a) : ∃ es, a = .list false fs.length es ∧ es.length ≤ maxLen ∧ ∀ e ∈ es, CellsOk fs e := by
  cases h with
  | list _ es hb hl h => exact ⟨es, rfl, hb, fun e he => cellsOk_of _ _ (hl e he) fun i s c h1 h2 => h e i s c he h1 h2⟩

theorem argOk_slice {fs : List Sh} {a : AVal} (h : ArgOk (false, [.slice fs]) a) : ∃ es, a = .list false fs.length es ∧ es.length ≤ maxLen ∧ ∀ e ∈ es, CellsOk fs e := by
  obtain ⟨s, h1, h2⟩ := h
  cases h1
  exact shOk_slice h2

theorem list_image {α β : Type} {g : α → β} {W : α → Prop} : ∀ (l : List β), (∀ x ∈ l, ∃ a, x = g a ∧ W a) → ∃ m : List α, l = m.map g ∧ ∀ a ∈ m, W a
  | [], _ => ⟨[], rfl, by simp⟩
  | x :: l, h => by
    obtain ⟨a, rfl, ha⟩ := h x (by simp)
    obtain ⟨m, rfl, hm⟩ := list_image l fun y hy => h y (by simp [hy])
    exact ⟨a :: m, rfl, fun b hb => by rcases List.mem_cons.1 hb with rfl | hb; exact ha; exact hm b hb⟩

theorem cellsOk_int {k : IntKind} {e : List AVal} (h : CellsOk [.int k] e) : ∃ n, e = [.int k n] ∧ (Lit.int k n).wf = true := by
  match e, h with
  | [a], h =>
    obtain ⟨h1, _⟩ := h
    cases h1
    rename_i n hn
    exact ⟨n, rfl, hn⟩

theorem argOk_ints {k : IntKind} {a : AVal} (h : ArgOk (false, [.slice [.int k]]) a) : ∃ l : List Int, a = .list false 1 (l.map fun n => [.int k n]) ∧ l.length ≤ maxLen ∧ ∀ n ∈ l, (Lit.int k n).wf = true := by
  obtain ⟨es, rfl, hl, h⟩ := argOk_slice h
  obtain ⟨m, rfl, hm⟩ := list_image (g := fun n => [AVal.int k n]) (W := fun n => (Lit.int k n).wf = true) es fun e he => cellsOk_int (h e he)
  exact ⟨m, rfl, by simpa using hl, hm⟩

end Go.AW

namespace Go.AW
variable [Draws]
attribute [local irreducible] ACalls
structure V where
  kind : Int
  num : Int
  str : ByteArray

def valC (v : V) : List AVal := [.int .i64 v.kind, .int .i64 v.num, .str v.str]

def validB (v : V) : Bool :=
  if v.kind = 0 then v.num == 0 && v.str.data.toList == []
  else if v.kind = 1 then (v.num == 0 || v.num == 1) && v.str.data.toList == []
  else if v.kind = 2 then decide (-1073741824 ≤ v.num) && decide (v.num ≤ 1073741824) && v.str.data.toList == []
  else if v.kind = 3 then v.num == 0 && decide (v.str.size ≤ 64)
  else if v.kind = 4 then decide (0 ≤ v.num) && decide (v.num ≤ 575999999) && v.str.data.toList == []
  else false

def cmpI (a b : Int) : Int := if a < b then -1 else if b < a then 1 else 0

def cmpS (a b : List UInt8) : Int := if Op.bytesLess a b then -1 else if a = b then 0 else 1

def orI : List Int → Int
  | [] => 0
  | x :: xs => if x = 0 then orI xs else x

def valCmp (a b : V) : Int := orI [cmpI a.kind b.kind, cmpI a.num b.num, cmpS a.str.data.toList b.str.data.toList]

end Go.AW

namespace Go.AW
variable [Draws]
attribute [local irreducible] ACalls
def bC (l : List Int) : List (List AVal) := l.map fun n => [.int .u8 n]

def u8 (n : Int) : Int := IntKind.u8.wrap n

def w4 (n : Int) : List Int := [u8 (n.fdiv (2 ^ 24)), u8 (n.fdiv (2 ^ 16)), u8 (n.fdiv (2 ^ 8)), u8 n]

theorem bC_append (a b : List Int) : bC (a ++ b) = bC a ++ bC b := List.map_append

theorem bC_length (l : List Int) : (bC l).length = l.length := List.length_map ..

theorem roomB_le {n : Nat} (h : n ≤ 1000000000) : n ≤ roomB := Nat.le_trans h (by show _ ≤ 1099511627776; omega)

theorem roomB_le1 {n : Nat} (h : n ≤ 1000000000) : n * 1 ≤ roomB := roomB_le (by omega)

def bytesI (s : ByteArray) : List Int := s.data.toList.map fun b => (b.toNat : Int)

def encV (v : V) : List Int :=
  u8 v.kind :: (if v.kind = 1 then [u8 v.num] else if v.kind = 2 then w4 (IntKind.i64.wrap (v.num + 1073741824)) else if v.kind = 4 then w4 v.num else if v.kind = 3 then u8 v.str.size :: bytesI v.str else [])

def encB (rs : List V) : List Int := u8 rs.length :: rs.flatMap encV

theorem pureEs_bC (l : List Int) : pureEs (bC l) = true := by simp [pureEs, bC, AVal.isPure]

theorem pub_int {H1 : List AObj} {n : Nat} {ids : List Nat} {k : IntKind} {a b : Int} (h : a = b) : Pub H1 n ids (.int k a) (.int k b) := by subst h; exact .closed _ rfl

theorem pub2 {H1 : List AObj} {n : Nat} {ids : List Nat} {a b r s : AVal} (h1 : Pub H1 n ids a r) (h2 : Pub H1 n ids b s) : Pub H1 n ids (.tuple [a, b]) (.tuple [r, s]) := by
  refine .tuple _ _ rfl fun i v t h3 h4 => ?_
  rcases i with _ | _ | i
  · cases h3; cases h4; exact h1
  · cases h3; cases h4; exact h2
  · simp at h3

theorem pubF {H1 : List AObj} {n : Nat} {id ep len sz : Nat} {es : List (List AVal)} (ho : H1[id]? = some (.arr sz es)) (he : ep = es.length) (hl : len = es.length) (hp : pureEs es = true) : Pub H1 n [] (.sl id ep 0 len) (.list false sz es) := by
  subst hl he
  have := Pub.frz (n := n) (ids := []) id es.length 0 es.length sz es ho rfl hp (by simp)
  rwa [List.drop_zero, List.take_length] at this

end Go.AW

namespace Go.AW
variable [Draws]
attribute [local irreducible] ACalls
def iC (l : List Int) : List (List AVal) := l.map fun n => [.int .i64 n]

theorem iC_length (l : List Int) : (iC l).length = l.length := List.length_map ..

def w64 (n : Int) : Int := IntKind.i64.wrap n

end Go.AW

namespace Go.AW
variable [Draws]
attribute [local irreducible] ACalls
def vC (rs : List V) : List (List AVal) := rs.map valC

theorem roomMul {n b : Nat} (h : n ≤ 1000000) (hb : b ≤ 1000000) : n * b ≤ roomB :=
  Nat.le_trans (Nat.mul_le_mul h hb) (by show 1000000 * 1000000 ≤ 1099511627776; omega)

theorem get_drop {α : Type} {l : List α} {k : Nat} (h : k < l.length) : ∃ x, l[k]? = some x ∧ l.drop k = x :: l.drop (k + 1) ∧ x ∈ l :=
  ⟨l[k], List.getElem?_eq_getElem h, List.drop_eq_getElem_cons h, List.getElem_mem h⟩

def rowsCmp : List V → List V → Int
  | [], [] => 0
  | [], _ :: _ => -1
  | _ :: _, [] => 1
  | x :: xs, y :: ys => if valCmp x y = 0 then rowsCmp xs ys else valCmp x y

end Go.AW

namespace Go.AW
variable [Draws]
attribute [local irreducible] ACalls
def or64 (a b : Int) : Int := IntKind.i64.wrap (BitVec.ofInt IntKind.i64.bits a ||| BitVec.ofInt IntKind.i64.bits b).toNat

theorem or64_add (m y : Int) (k : Nat) (hm : 0 ≤ m) (hy : 0 ≤ y) (hyk : y < 2 ^ k) (hb : m * 2 ^ k + y < 2 ^ 62) : or64 (m * 2 ^ k) y = m * 2 ^ k + y := by
  obtain ⟨m, rfl⟩ := Int.eq_ofNat_of_zero_le hm
  obtain ⟨y, rfl⟩ := Int.eq_ofNat_of_zero_le hy
  have hyk' : y < 2 ^ k := by exact_mod_cast hyk
  have hb' : m * 2 ^ k + y < 2 ^ 62 := by exact_mod_cast hb
  show IntKind.i64.wrap ((BitVec.ofInt 64 ((m : Int) * 2 ^ k) ||| BitVec.ofInt 64 (y : Int)).toNat : Int) = _
  have e1 : ((m : Int) * 2 ^ k) = ((m * 2 ^ k : Nat) : Int) := by simp
  rw [e1, BitVec.ofInt_natCast, BitVec.ofInt_natCast, BitVec.toNat_or, BitVec.toNat_ofNat, BitVec.toNat_ofNat, Nat.mod_eq_of_lt (by omega), Nat.mod_eq_of_lt (by omega)]
  have h := Nat.shiftLeft_add_eq_or_of_lt hyk' m
  rw [Nat.shiftLeft_eq] at h
  rw [← h, wrapI _ (by omega) (by omega)]
  simp

def Byt (l : List Int) : Prop := ∀ x ∈ l, 0 ≤ x ∧ x ≤ 255

def num (l : List Int) : Int := l.foldl (fun n x => n * 256 + x) 0

def strOf (l : List Int) : ByteArray := ⟨(l.map fun n => UInt8.ofNat n.toNat).toArray⟩

theorem bytesOf_bC : ∀ (l : List Int), bytesOf (bC l) = some (l.map fun n => UInt8.ofNat n.toNat)
  | [] => rfl
  | x :: l => by
    show (bytesOf (bC l)).map (UInt8.ofNat x.toNat :: ·) = _
    rw [bytesOf_bC l]; rfl

theorem bC_drop (l : List Int) (k : Nat) : (bC l).drop k = bC (l.drop k) := by simp [bC, List.map_drop]

theorem bC_take (l : List Int) (k : Nat) : (bC l).take k = bC (l.take k) := by simp [bC, List.map_take]

def decW (l : List Int) (k n : Int) : V × Int :=
  if l.length = 0 then (⟨0, 0, bs []⟩, 0)
  else if k = 0 then (⟨0, 0, bs []⟩, 1)
  else if k = 1 ∧ 2 ≤ l.length then (⟨1, n, bs []⟩, 2)
  else if k = 2 ∧ 5 ≤ l.length then (⟨2, num ((l.take 5).drop 1) - 1073741824, bs []⟩, 5)
  else if k = 4 ∧ 5 ≤ l.length then (⟨4, num ((l.take 5).drop 1), bs []⟩, 5)
  else if k = 3 ∧ 2 ≤ l.length ∧ 2 + n ≤ l.length then (⟨3, 0, strOf ((l.take (2 + n).toNat).drop 2)⟩, 2 + n)
  else (⟨0, 0, bs []⟩, 0)

def decV (l : List Int) : V × Int := decW l (l.getD 0 0) (l.getD 1 0)

theorem Byt.sub {l m : List Int} (h : Byt l) (hm : ∀ x ∈ m, x ∈ l) : Byt m := fun x hx => h x (hm x hx)

theorem Byt.drop {l : List Int} (h : Byt l) (k : Nat) : Byt (l.drop k) := h.sub fun _ hx => List.mem_of_mem_drop hx

theorem Byt.take {l : List Int} (h : Byt l) (k : Nat) : Byt (l.take k) := h.sub fun _ hx => List.mem_of_mem_take hx

def decN : Nat → List Int → Option (List V × List Int)
  | 0, l => some ([], l)
  | n + 1, l => if (decV l).2 = 0 ∨ validB (decV l).1 = false then none else match decN n (l.drop (decV l).2.toNat) with
    | some (rs, r) => some ((decV l).1 :: rs, r)
    | none => none

end Go.AW

namespace Go.AW
variable [Draws]
attribute [local irreducible] ACalls
theorem bl_irrefl : ∀ (a : List UInt8), Op.bytesLess a a = false
  | [] => rfl
  | x :: a => by simp [Op.bytesLess, bl_irrefl a]

theorem bl_tri : ∀ (a b : List UInt8), Op.bytesLess a b = true ∨ a = b ∨ Op.bytesLess b a = true
  | [], [] => .inr (.inl rfl)
  | [], _ :: _ => .inl rfl
  | _ :: _, [] => .inr (.inr rfl)
  | x :: a, y :: b => by
    simp only [Op.bytesLess, Bool.or_eq_true, decide_eq_true_eq, Bool.and_eq_true, beq_iff_eq, List.cons.injEq]
    rcases (show x < y ∨ x = y ∨ y < x from by rcases Nat.lt_trichotomy x.toNat y.toNat with h | h | h; exact .inl h; exact .inr (.inl (UInt8.toNat_inj.1 h)); exact .inr (.inr h)) with h | h | h
    · exact .inl (.inl h)
    · subst h
      rcases bl_tri a b with h | h | h
      · exact .inl (.inr ⟨rfl, h⟩)
      · exact .inr (.inl ⟨rfl, h⟩)
      · exact .inr (.inr (.inr ⟨rfl, h⟩))
    · exact .inr (.inr (.inl h))

theorem bl_trans : ∀ (a b c : List UInt8), Op.bytesLess a b = true → Op.bytesLess b c = true → Op.bytesLess a c = true
  | _, [], _, h, _ => by cases ‹List UInt8› <;> simp [Op.bytesLess] at h
  | _, _ :: _, [], _, h => by simp [Op.bytesLess] at h
  | [], _ :: _, _ :: _, _, _ => rfl
  | x :: a, y :: b, z :: c, h1, h2 => by
    simp only [Op.bytesLess, Bool.or_eq_true, decide_eq_true_eq, Bool.and_eq_true, beq_iff_eq] at *
    rcases h1 with h1 | ⟨rfl, h1⟩
    · rcases h2 with h2 | ⟨rfl, h2⟩
      · exact .inl (UInt8.lt_trans h1 h2)
      · exact .inl h1
    · rcases h2 with h2 | ⟨rfl, h2⟩
      · exact .inl h2
      · exact .inr ⟨rfl, bl_trans a b c h1 h2⟩

structure IsCmp {α : Type} (c : α → α → Int) : Prop where
  vals : ∀ a b, c a b = -1 ∨ c a b = 0 ∨ c a b = 1
  anti : ∀ a b, c b a = - c a b
  zero : ∀ a b, c a b = 0 ↔ a = b
  trans : ∀ a b d, c a b < 0 → c b d < 0 → c a d < 0

theorem IsCmp.ltle {α : Type} {c : α → α → Int} (h : IsCmp c) {a b d : α} (h1 : c a b < 0) (h2 : c b d ≤ 0) : c a d < 0 := by
  by_cases e : c b d = 0
  · rw [← (h.zero b d).1 e]; exact h1
  · exact h.trans a b d h1 (by omega)

theorem IsCmp.le {α : Type} {c : α → α → Int} (h : IsCmp c) {a b d : α} (h1 : c a b ≤ 0) (h2 : c b d ≤ 0) : c a d ≤ 0 := by
  by_cases e : c a b = 0
  · rw [(h.zero a b).1 e]; exact h2
  · have := h.ltle (a := a) (by omega) h2; omega

theorem isCmp_int : IsCmp cmpI := by
  refine ⟨fun a b => ?_, fun a b => ?_, fun a b => ?_, fun a b d => ?_⟩ <;> unfold cmpI <;> (repeat' split) <;> omega

theorem isCmp_str : IsCmp cmpS := by
  have asym : ∀ a b, Op.bytesLess a b = true → Op.bytesLess b a = true → False := fun a b h1 h2 => by
    have := bl_trans a b a h1 h2
    rw [bl_irrefl] at this; cases this
  refine ⟨fun a b => ?_, fun a b => ?_, fun a b => ?_, fun a b d => ?_⟩
  · unfold cmpS; split
    · simp
    · split <;> simp
  · unfold cmpS
    rcases bl_tri a b with h | h | h
    · have hb : Op.bytesLess b a = false := by cases hb : Op.bytesLess b a with | false => rfl | true => exact (asym a b h hb).elim
      have hne : ¬ b = a := by rintro rfl; rw [bl_irrefl] at h; cases h
      simp [h, hb, hne]
    · subst h; simp [bl_irrefl]
    · have hb : Op.bytesLess a b = false := by cases hb : Op.bytesLess a b with | false => rfl | true => exact (asym a b hb h).elim
      have hne : ¬ a = b := by rintro rfl; rw [bl_irrefl] at h; cases h
      simp [h, hb, hne]
  · unfold cmpS
    split
    · rename_i h
      refine ⟨fun h => by omega, ?_⟩
      rintro rfl
      rw [bl_irrefl] at h; cases h
    · split <;> simp [*]
  · unfold cmpS
    intro h1 h2
    have e1 : Op.bytesLess a b = true := by
      revert h1
      split
      · intro _; assumption
      · split <;> intro h <;> omega
    have e2 : Op.bytesLess b d = true := by
      revert h2
      split
      · intro _; assumption
      · split <;> intro h <;> omega
    rw [if_pos (bl_trans a b d e1 e2)]; omega

theorem isCmp_val : IsCmp valCmp := by
  have I := isCmp_int
  have S := isCmp_str
  refine ⟨fun a b => ?_, fun a b => ?_, fun a b => ?_, fun a b d => ?_⟩
  · have := I.vals a.kind b.kind; have := I.vals a.num b.num; have := S.vals a.str.data.toList b.str.data.toList
    simp only [valCmp, orI]; (repeat' split) <;> omega
  · have := I.anti a.kind b.kind; have := I.anti a.num b.num; have := S.anti a.str.data.toList b.str.data.toList
    simp only [valCmp, orI]; (repeat' split) <;> omega
  · have h1 := I.zero a.kind b.kind; have h2 := I.zero a.num b.num; have h3 := S.zero a.str.data.toList b.str.data.toList
    constructor
    · intro h
      simp only [valCmp, orI] at h
      have e1 : cmpI a.kind b.kind = 0 := by revert h; (repeat' split) <;> omega
      have e2 : cmpI a.num b.num = 0 := by revert h; (repeat' split) <;> omega
      have e3 : cmpS a.str.data.toList b.str.data.toList = 0 := by revert h; (repeat' split) <;> omega
      obtain ⟨ak, an, ⟨⟨asv⟩⟩⟩ := a
      obtain ⟨bk, bn, ⟨⟨bl⟩⟩⟩ := b
      have q1 := h1.1 e1; have q2 := h2.1 e2; have q3 := h3.1 e3
      simp only at q1 q2 q3
      subst q1 q2 q3; rfl
    · rintro rfl
      simp only [valCmp, orI]
      rw [if_pos (h1.2 rfl), if_pos (h2.2 rfl), if_pos (h3.2 rfl)]
  · intro h1 h2
    have a1 := I.trans a.kind b.kind d.kind; have a2 := I.trans a.num b.num d.num; have a3 := S.trans a.str.data.toList b.str.data.toList d.str.data.toList
    have v1 := I.vals a.kind b.kind; have v2 := I.vals b.kind d.kind; have v3 := I.vals a.num b.num; have v4 := I.vals b.num d.num
    have z1 := I.zero a.kind b.kind; have z2 := I.zero b.kind d.kind; have z3 := I.zero a.num b.num; have z4 := I.zero b.num d.num
    have z5 := I.zero a.kind d.kind; have z6 := I.zero a.num d.num
    simp only [valCmp, orI] at *
    by_cases k1 : a.kind = b.kind <;> by_cases k2 : b.kind = d.kind <;> by_cases n1 : a.num = b.num <;> by_cases n2 : b.num = d.num <;> simp_all <;> (repeat' split) <;> omega

end Go.AW

namespace Go.AW
variable [Draws]
attribute [local irreducible] ACalls
def letterB (b : UInt8) : Bool := decide (97 ≤ b.toNat ∧ b.toNat ≤ 122)

def restB (b : UInt8) : Bool := decide (97 ≤ b.toNat ∧ b.toNat ≤ 122 ∨ 48 ≤ b.toNat ∧ b.toNat ≤ 57 ∨ b.toNat = 95)

def nameL : List UInt8 → Bool
  | [] => false
  | b :: r => letterB b && r.all restB

def nameB (s : ByteArray) : Bool := decide (s.size ≤ 24) && nameL s.data.toList

end Go.AW

