/-
  An abstract machine over the model, the code of functions on it, and their contracts: what the claim needs.
  No condition: definitions, plain laws, contracts over any program that has this code.
-/
import Derived.Test.YtgmobjimfalhoaaGreatZ3
set_option linter.all false
namespace Go.AW
def c_math_bits_Len32 : AFunc := ⟨19, [.tmp 2],
  (.seq
  (.region [
    ⟨(some 2), .move (.c (.int .i64 0)), none⟩])
  (.seq
  (.seq
  (.region [
    ⟨(some 3), .move (.t 0), none⟩,
    ⟨(some 4), .bin .geq (.t 3) (.c (.int .u32 65536)), none⟩])
  (.cond (.t 4)
    (.seq
    (.region [
      ⟨(some 5), .move (.t 0), none⟩,
      ⟨(some 6), .bin .shr (.t 5) (.c (.int .u64 16)), none⟩,
      ⟨(some 0), .move (.t 6), none⟩])
    (.region [
      ⟨(some 2), .move (.c (.int .i64 16)), none⟩]))
    .skip))
  (.seq
  (.seq
  (.region [
    ⟨(some 7), .move (.t 0), none⟩,
    ⟨(some 8), .bin .geq (.t 7) (.c (.int .u32 256)), none⟩])
  (.cond (.t 8)
    (.seq
    (.region [
      ⟨(some 9), .move (.t 0), none⟩,
      ⟨(some 10), .bin .shr (.t 9) (.c (.int .u64 8)), none⟩,
      ⟨(some 0), .move (.t 10), none⟩])
    (.region [
      ⟨(some 11), .move (.t 2), none⟩,
      ⟨(some 12), .bin .add (.t 11) (.c (.int .i64 8)), none⟩,
      ⟨(some 2), .move (.t 12), none⟩]))
    .skip))
  (.seq
  (.region [
    ⟨(some 13), .move (.t 2), none⟩,
    ⟨(some 14), .move (.t 0), none⟩,
    ⟨(some 15), .conv .u8 (.t 14), none⟩,
    ⟨(some 16), .indexStr (.c (.str (bs [0, 1, 2, 2, 3, 3, 3, 3, 4, 4, 4, 4, 4, 4, 4, 4, 5, 5, 5, 5, 5, 5, 5, 5, 5, 5, 5, 5, 5, 5, 5, 5, 6, 6, 6, 6, 6, 6, 6, 6, 6, 6, 6, 6, 6, 6, 6, 6, 6, 6, 6, 6, 6, 6, 6, 6, 6, 6, 6, 6, 6, 6, 6, 6, 7, 7, 7, 7, 7, 7, 7, 7, 7, 7, 7, 7, 7, 7, 7, 7, 7, 7, 7, 7, 7, 7, 7, 7, 7, 7, 7, 7, 7, 7, 7, 7, 7, 7, 7, 7, 7, 7, 7, 7, 7, 7, 7, 7, 7, 7, 7, 7, 7, 7, 7, 7, 7, 7, 7, 7, 7, 7, 7, 7, 7, 7, 7, 7, 8, 8, 8, 8, 8, 8, 8, 8, 8, 8, 8, 8, 8, 8, 8, 8, 8, 8, 8, 8, 8, 8, 8, 8, 8, 8, 8, 8, 8, 8, 8, 8, 8, 8, 8, 8, 8, 8, 8, 8, 8, 8, 8, 8, 8, 8, 8, 8, 8, 8, 8, 8, 8, 8, 8, 8, 8, 8, 8, 8, 8, 8, 8, 8, 8, 8, 8, 8, 8, 8, 8, 8, 8, 8, 8, 8, 8, 8, 8, 8, 8, 8, 8, 8, 8, 8, 8, 8, 8, 8, 8, 8, 8, 8, 8, 8, 8, 8, 8, 8, 8, 8, 8, 8, 8, 8, 8, 8, 8, 8, 8, 8, 8, 8, 8, 8, 8, 8, 8, 8, 8, 8, 8, 8, 8, 8, 8, 8]))) (.t 15), none⟩,
    ⟨(some 17), .conv .i64 (.t 16), none⟩,
    ⟨(some 18), .bin .add (.t 13) (.t 17), none⟩,
    ⟨(some 2), .move (.t 18), none⟩])
  .ret))))⟩

structure F_math_bits_Len32 (P : Program) where
  id : FuncId
  has : Has P id [] c_math_bits_Len32

def c_math_bits_Len64 : AFunc := ⟨25, [.tmp 2],
  (.seq
  (.region [
    ⟨(some 2), .move (.c (.int .i64 0)), none⟩])
  (.seq
  (.seq
  (.region [
    ⟨(some 3), .move (.t 0), none⟩,
    ⟨(some 4), .bin .geq (.t 3) (.c (.int .u64 4294967296)), none⟩])
  (.cond (.t 4)
    (.seq
    (.region [
      ⟨(some 5), .move (.t 0), none⟩,
      ⟨(some 6), .bin .shr (.t 5) (.c (.int .u64 32)), none⟩,
      ⟨(some 0), .move (.t 6), none⟩])
    (.region [
      ⟨(some 2), .move (.c (.int .i64 32)), none⟩]))
    .skip))
  (.seq
  (.seq
  (.region [
    ⟨(some 7), .move (.t 0), none⟩,
    ⟨(some 8), .bin .geq (.t 7) (.c (.int .u64 65536)), none⟩])
  (.cond (.t 8)
    (.seq
    (.region [
      ⟨(some 9), .move (.t 0), none⟩,
      ⟨(some 10), .bin .shr (.t 9) (.c (.int .u64 16)), none⟩,
      ⟨(some 0), .move (.t 10), none⟩])
    (.region [
      ⟨(some 11), .move (.t 2), none⟩,
      ⟨(some 12), .bin .add (.t 11) (.c (.int .i64 16)), none⟩,
      ⟨(some 2), .move (.t 12), none⟩]))
    .skip))
  (.seq
  (.seq
  (.region [
    ⟨(some 13), .move (.t 0), none⟩,
    ⟨(some 14), .bin .geq (.t 13) (.c (.int .u64 256)), none⟩])
  (.cond (.t 14)
    (.seq
    (.region [
      ⟨(some 15), .move (.t 0), none⟩,
      ⟨(some 16), .bin .shr (.t 15) (.c (.int .u64 8)), none⟩,
      ⟨(some 0), .move (.t 16), none⟩])
    (.region [
      ⟨(some 17), .move (.t 2), none⟩,
      ⟨(some 18), .bin .add (.t 17) (.c (.int .i64 8)), none⟩,
      ⟨(some 2), .move (.t 18), none⟩]))
    .skip))
  (.seq
  (.region [
    ⟨(some 19), .move (.t 2), none⟩,
    ⟨(some 20), .move (.t 0), none⟩,
    ⟨(some 21), .conv .u8 (.t 20), none⟩,
    ⟨(some 22), .indexStr (.c (.str (bs [0, 1, 2, 2, 3, 3, 3, 3, 4, 4, 4, 4, 4, 4, 4, 4, 5, 5, 5, 5, 5, 5, 5, 5, 5, 5, 5, 5, 5, 5, 5, 5, 6, 6, 6, 6, 6, 6, 6, 6, 6, 6, 6, 6, 6, 6, 6, 6, 6, 6, 6, 6, 6, 6, 6, 6, 6, 6, 6, 6, 6, 6, 6, 6, 7, 7, 7, 7, 7, 7, 7, 7, 7, 7, 7, 7, 7, 7, 7, 7, 7, 7, 7, 7, 7, 7, 7, 7, 7, 7, 7, 7, 7, 7, 7, 7, 7, 7, 7, 7, 7, 7, 7, 7, 7, 7, 7, 7, 7, 7, 7, 7, 7, 7, 7, 7, 7, 7, 7, 7, 7, 7, 7, 7, 7, 7, 7, 7, 8, 8, 8, 8, 8, 8, 8, 8, 8, 8, 8, 8, 8, 8, 8, 8, 8, 8, 8, 8, 8, 8, 8, 8, 8, 8, 8, 8, 8, 8, 8, 8, 8, 8, 8, 8, 8, 8, 8, 8, 8, 8, 8, 8, 8, 8, 8, 8, 8, 8, 8, 8, 8, 8, 8, 8, 8, 8, 8, 8, 8, 8, 8, 8, 8, 8, 8, 8, 8, 8, 8, 8, 8, 8, 8, 8, 8, 8, 8, 8, 8, 8, 8, 8, 8, 8, 8, 8, 8, 8, 8, 8, 8, 8, 8, 8, 8, 8, 8, 8, 8, 8, 8, 8, 8, 8, 8, 8, 8, 8, 8, 8, 8, 8, 8, 8, 8, 8, 8, 8, 8, 8, 8, 8, 8, 8, 8, 8]))) (.t 21), none⟩,
    ⟨(some 23), .conv .i64 (.t 22), none⟩,
    ⟨(some 24), .bin .add (.t 19) (.t 23), none⟩,
    ⟨(some 2), .move (.t 24), none⟩])
  .ret)))))⟩

structure F_math_bits_Len64 (P : Program) where
  id : FuncId
  has : Has P id [] c_math_bits_Len64

def c_math_bits_Len (f_math_bits_Len32 : FuncId) (f_math_bits_Len64 : FuncId) : AFunc := ⟨8, [.tmp 2],
  (.seq
  (.region [
    ⟨(some 2), .move (.c (.int .i64 0)), none⟩])
  (.seq
  (.cond (.c (.bool false))
    (.seq
    (.region [
      ⟨(some 3), .move (.t 0), none⟩,
      ⟨(some 4), .conv .u32 (.t 3), none⟩,
      ⟨(some 5), .call f_math_bits_Len32 [(.t 4)], none⟩,
      ⟨(some 2), .move (.t 5), none⟩])
    .ret)
    .skip)
  (.seq
  (.region [
    ⟨(some 6), .move (.t 0), none⟩,
    ⟨(some 7), .call f_math_bits_Len64 [(.t 6)], none⟩,
    ⟨(some 2), .move (.t 7), none⟩])
  .ret)))⟩

structure F_math_bits_Len (P : Program) where
  id : FuncId
  math_bits_Len32 : F_math_bits_Len32 P
  math_bits_Len64 : F_math_bits_Len64 P
  has : Has P id [] (c_math_bits_Len math_bits_Len32.id math_bits_Len64.id)

def c_slices_insertionSortCmpFunc_Entry : AFunc := ⟨53, [],
  (.seq
  (.region [
    ⟨(some 10), .move (.t 1), none⟩,
    ⟨(some 11), .bin .add (.t 10) (.c (.int .i64 1)), none⟩,
    ⟨(some 8), .move (.t 11), none⟩])
  (.block 0
    (.loop
      (.seq
      (.seq
      (.region [
        ⟨(some 12), .move (.t 8), none⟩,
        ⟨(some 13), .move (.t 2), none⟩,
        ⟨(some 14), .bin .lss (.t 12) (.t 13), none⟩])
      (.cond (.t 14)
        .skip
        (.exit 0)))
      (.seq
      (.block 1
        (.seq
        (.region [
          ⟨(some 17), .move (.t 8), none⟩,
          ⟨(some 9), .move (.t 17), none⟩])
        (.block 2
          (.loop
            (.seq
            (.seq
            (.draw [
              (⟨(some 18), .move (.t 9), none⟩, []),
              (⟨(some 19), .move (.t 1), none⟩, []),
              (⟨(some 20), .bin .gtr (.t 18) (.t 19), none⟩, []),
              (⟨(some 21), .move (.t 20), none⟩, []),
              (⟨(some 22), .move (.t 3), some (some 21, true)⟩, []),
              (⟨(some 23), .move (.t 0), some (some 21, true)⟩, []),
              (⟨(some 24), .move (.t 9), some (some 21, true)⟩, []),
              (⟨(some 25), .indexAddr 2 (.t 23) (.t 24), some (some 21, true)⟩, []),
              (⟨(some 26), .load true 2 (.t 25), some (some 21, true)⟩, []),
              (⟨(some 27), .move (.t 0), some (some 21, true)⟩, []),
              (⟨(some 28), .move (.t 9), some (some 21, true)⟩, []),
              (⟨(some 29), .bin .sub (.t 28) (.c (.int .i64 1)), some (some 21, true)⟩, []),
              (⟨(some 30), .indexAddr 2 (.t 27) (.t 29), some (some 21, true)⟩, []),
              (⟨(some 31), .load true 2 (.t 30), some (some 21, true)⟩, []),
              (⟨(some 32), .callv (.t 22) [(.t 26), (.t 31)], some (some 21, true)⟩, []),
              (⟨(some 33), .bin .lss (.t 32) (.c (.int .i64 0)), some (some 21, true)⟩, []),
              (⟨(some 34), .pick (.t 21) (.t 33) (.c (.bool false)), none⟩, [])])
            (.cond (.t 34)
              .skip
              (.exit 2)))
            (.seq
            (.block 3
              (.draw [
                (⟨(some 37), .move (.t 0), none⟩, []),
                (⟨(some 38), .move (.t 9), none⟩, []),
                (⟨(some 39), .move (.t 0), none⟩, []),
                (⟨(some 40), .move (.t 9), none⟩, []),
                (⟨(some 41), .bin .sub (.t 40) (.c (.int .i64 1)), none⟩, []),
                (⟨(some 42), .move (.t 0), none⟩, []),
                (⟨(some 43), .move (.t 9), none⟩, []),
                (⟨(some 44), .bin .sub (.t 43) (.c (.int .i64 1)), none⟩, []),
                (⟨(some 45), .indexAddr 2 (.t 42) (.t 44), none⟩, []),
                (⟨(some 46), .load true 2 (.t 45), none⟩, []),
                (⟨(some 47), .move (.t 0), none⟩, []),
                (⟨(some 48), .move (.t 9), none⟩, []),
                (⟨(some 49), .indexAddr 2 (.t 47) (.t 48), none⟩, []),
                (⟨(some 50), .load true 2 (.t 49), none⟩, []),
                (⟨(some 51), .indexAddr 2 (.t 37) (.t 38), none⟩, []),
                (⟨none, .store 2 (.t 51) (.t 46), none⟩, []),
                (⟨(some 52), .indexAddr 2 (.t 39) (.t 41), none⟩, []),
                (⟨none, .store 2 (.t 52) (.t 50), none⟩, [])]))
            (.region [
              ⟨(some 35), .move (.t 9), none⟩,
              ⟨(some 36), .bin .sub (.t 35) (.c (.int .i64 1)), none⟩,
              ⟨(some 9), .move (.t 36), none⟩])))))))
      (.region [
        ⟨(some 15), .move (.t 8), none⟩,
        ⟨(some 16), .bin .add (.t 15) (.c (.int .i64 1)), none⟩,
        ⟨(some 8), .move (.t 16), none⟩]))))))⟩

structure F_slices_insertionSortCmpFunc_Entry (P : Program) where
  id : FuncId
  has : Has P id [] c_slices_insertionSortCmpFunc_Entry

def c_slices_siftDownCmpFunc_Entry : AFunc := ⟨82, [],
  (.seq
  (.region [
    ⟨(some 12), .move (.t 1), none⟩,
    ⟨(some 10), .move (.t 12), none⟩])
  (.block 0
    (.loop
      (.block 1
        (.seq
        (.region [
          ⟨(some 13), .move (.t 10), none⟩,
          ⟨(some 14), .bin .mul (.c (.int .i64 2)) (.t 13), none⟩,
          ⟨(some 15), .bin .add (.t 14) (.c (.int .i64 1)), none⟩,
          ⟨(some 11), .move (.t 15), none⟩])
        (.seq
        (.seq
        (.region [
          ⟨(some 16), .move (.t 11), none⟩,
          ⟨(some 17), .move (.t 2), none⟩,
          ⟨(some 18), .bin .geq (.t 16) (.t 17), none⟩])
        (.cond (.t 18)
          (.exit 0)
          .skip))
        (.seq
        (.seq
        (.draw [
          (⟨(some 19), .move (.t 11), none⟩, []),
          (⟨(some 20), .bin .add (.t 19) (.c (.int .i64 1)), none⟩, []),
          (⟨(some 21), .move (.t 2), none⟩, []),
          (⟨(some 22), .bin .lss (.t 20) (.t 21), none⟩, []),
          (⟨(some 23), .move (.t 22), none⟩, []),
          (⟨(some 24), .move (.t 4), some (some 23, true)⟩, []),
          (⟨(some 25), .move (.t 0), some (some 23, true)⟩, []),
          (⟨(some 26), .move (.t 3), some (some 23, true)⟩, []),
          (⟨(some 27), .move (.t 11), some (some 23, true)⟩, []),
          (⟨(some 28), .bin .add (.t 26) (.t 27), some (some 23, true)⟩, []),
          (⟨(some 29), .indexAddr 2 (.t 25) (.t 28), some (some 23, true)⟩, []),
          (⟨(some 30), .load true 2 (.t 29), some (some 23, true)⟩, []),
          (⟨(some 31), .move (.t 0), some (some 23, true)⟩, []),
          (⟨(some 32), .move (.t 3), some (some 23, true)⟩, []),
          (⟨(some 33), .move (.t 11), some (some 23, true)⟩, []),
          (⟨(some 34), .bin .add (.t 32) (.t 33), some (some 23, true)⟩, []),
          (⟨(some 35), .bin .add (.t 34) (.c (.int .i64 1)), some (some 23, true)⟩, []),
          (⟨(some 36), .indexAddr 2 (.t 31) (.t 35), some (some 23, true)⟩, []),
          (⟨(some 37), .load true 2 (.t 36), some (some 23, true)⟩, []),
          (⟨(some 38), .callv (.t 24) [(.t 30), (.t 37)], some (some 23, true)⟩, []),
          (⟨(some 39), .bin .lss (.t 38) (.c (.int .i64 0)), some (some 23, true)⟩, []),
          (⟨(some 40), .pick (.t 23) (.t 39) (.c (.bool false)), none⟩, [])])
        (.cond (.t 40)
          (.region [
            ⟨(some 41), .move (.t 11), none⟩,
            ⟨(some 42), .bin .add (.t 41) (.c (.int .i64 1)), none⟩,
            ⟨(some 11), .move (.t 42), none⟩])
          .skip))
        (.seq
        (.seq
        (.draw [
          (⟨(some 43), .move (.t 4), none⟩, []),
          (⟨(some 44), .move (.t 0), none⟩, []),
          (⟨(some 45), .move (.t 3), none⟩, []),
          (⟨(some 46), .move (.t 10), none⟩, []),
          (⟨(some 47), .bin .add (.t 45) (.t 46), none⟩, []),
          (⟨(some 48), .indexAddr 2 (.t 44) (.t 47), none⟩, []),
          (⟨(some 49), .load true 2 (.t 48), none⟩, []),
          (⟨(some 50), .move (.t 0), none⟩, []),
          (⟨(some 51), .move (.t 3), none⟩, []),
          (⟨(some 52), .move (.t 11), none⟩, []),
          (⟨(some 53), .bin .add (.t 51) (.t 52), none⟩, []),
          (⟨(some 54), .indexAddr 2 (.t 50) (.t 53), none⟩, []),
          (⟨(some 55), .load true 2 (.t 54), none⟩, []),
          (⟨(some 56), .callv (.t 43) [(.t 49), (.t 55)], none⟩, []),
          (⟨(some 57), .bin .lss (.t 56) (.c (.int .i64 0)), none⟩, []),
          (⟨(some 58), .un .not (.t 57), none⟩, [])])
        (.cond (.t 58)
          .ret
          .skip))
        (.seq
        (.draw [
          (⟨(some 59), .move (.t 0), none⟩, []),
          (⟨(some 60), .move (.t 3), none⟩, []),
          (⟨(some 61), .move (.t 10), none⟩, []),
          (⟨(some 62), .bin .add (.t 60) (.t 61), none⟩, []),
          (⟨(some 63), .move (.t 0), none⟩, []),
          (⟨(some 64), .move (.t 3), none⟩, []),
          (⟨(some 65), .move (.t 11), none⟩, []),
          (⟨(some 66), .bin .add (.t 64) (.t 65), none⟩, []),
          (⟨(some 67), .move (.t 0), none⟩, []),
          (⟨(some 68), .move (.t 3), none⟩, []),
          (⟨(some 69), .move (.t 11), none⟩, []),
          (⟨(some 70), .bin .add (.t 68) (.t 69), none⟩, []),
          (⟨(some 71), .indexAddr 2 (.t 67) (.t 70), none⟩, []),
          (⟨(some 72), .load true 2 (.t 71), none⟩, []),
          (⟨(some 73), .move (.t 0), none⟩, []),
          (⟨(some 74), .move (.t 3), none⟩, []),
          (⟨(some 75), .move (.t 10), none⟩, []),
          (⟨(some 76), .bin .add (.t 74) (.t 75), none⟩, []),
          (⟨(some 77), .indexAddr 2 (.t 73) (.t 76), none⟩, []),
          (⟨(some 78), .load true 2 (.t 77), none⟩, []),
          (⟨(some 79), .indexAddr 2 (.t 59) (.t 62), none⟩, []),
          (⟨none, .store 2 (.t 79) (.t 72), none⟩, []),
          (⟨(some 80), .indexAddr 2 (.t 63) (.t 66), none⟩, []),
          (⟨none, .store 2 (.t 80) (.t 78), none⟩, [])])
        (.region [
          ⟨(some 81), .move (.t 11), none⟩,
          ⟨(some 10), .move (.t 81), none⟩]))))))))))⟩

structure F_slices_siftDownCmpFunc_Entry (P : Program) where
  id : FuncId
  has : Has P id [] c_slices_siftDownCmpFunc_Entry

def c_slices_heapSortCmpFunc_Entry (f_slices_siftDownCmpFunc_Entry : FuncId) : AFunc := ⟨60, [],
  (.seq
  (.region [
    ⟨(some 13), .move (.t 1), none⟩,
    ⟨(some 8), .move (.t 13), none⟩])
  (.seq
  (.region [
    ⟨(some 9), .move (.c (.int .i64 0)), none⟩])
  (.seq
  (.region [
    ⟨(some 14), .move (.t 2), none⟩,
    ⟨(some 15), .move (.t 1), none⟩,
    ⟨(some 16), .bin .sub (.t 14) (.t 15), none⟩,
    ⟨(some 10), .move (.t 16), none⟩])
  (.seq
  (.seq
  (.region [
    ⟨(some 17), .move (.t 10), none⟩,
    ⟨(some 18), .bin .sub (.t 17) (.c (.int .i64 1)), none⟩,
    ⟨(some 19), .bin .quo (.t 18) (.c (.int .i64 2)), none⟩,
    ⟨(some 11), .move (.t 19), none⟩])
  (.block 0
    (.loop
      (.seq
      (.seq
      (.region [
        ⟨(some 20), .move (.t 11), none⟩,
        ⟨(some 21), .bin .geq (.t 20) (.c (.int .i64 0)), none⟩])
      (.cond (.t 21)
        .skip
        (.exit 0)))
      (.seq
      (.block 1
        (.region [
          ⟨(some 24), .move (.t 0), none⟩,
          ⟨(some 25), .move (.t 11), none⟩,
          ⟨(some 26), .move (.t 10), none⟩,
          ⟨(some 27), .move (.t 8), none⟩,
          ⟨(some 28), .move (.t 3), none⟩,
          ⟨(some 29), .call f_slices_siftDownCmpFunc_Entry [(.t 24), (.t 25), (.t 26), (.t 27), (.t 28)], none⟩]))
      (.region [
        ⟨(some 22), .move (.t 11), none⟩,
        ⟨(some 23), .bin .sub (.t 22) (.c (.int .i64 1)), none⟩,
        ⟨(some 11), .move (.t 23), none⟩]))))))
  (.seq
  (.region [
    ⟨(some 30), .move (.t 10), none⟩,
    ⟨(some 31), .bin .sub (.t 30) (.c (.int .i64 1)), none⟩,
    ⟨(some 12), .move (.t 31), none⟩])
  (.block 2
    (.loop
      (.seq
      (.seq
      (.region [
        ⟨(some 32), .move (.t 12), none⟩,
        ⟨(some 33), .bin .geq (.t 32) (.c (.int .i64 0)), none⟩])
      (.cond (.t 33)
        .skip
        (.exit 2)))
      (.seq
      (.block 3
        (.seq
        (.draw [
          (⟨(some 36), .move (.t 0), none⟩, []),
          (⟨(some 37), .move (.t 8), none⟩, []),
          (⟨(some 38), .move (.t 0), none⟩, []),
          (⟨(some 39), .move (.t 8), none⟩, []),
          (⟨(some 40), .move (.t 12), none⟩, []),
          (⟨(some 41), .bin .add (.t 39) (.t 40), none⟩, []),
          (⟨(some 42), .move (.t 0), none⟩, []),
          (⟨(some 43), .move (.t 8), none⟩, []),
          (⟨(some 44), .move (.t 12), none⟩, []),
          (⟨(some 45), .bin .add (.t 43) (.t 44), none⟩, []),
          (⟨(some 46), .indexAddr 2 (.t 42) (.t 45), none⟩, []),
          (⟨(some 47), .load true 2 (.t 46), none⟩, []),
          (⟨(some 48), .move (.t 0), none⟩, []),
          (⟨(some 49), .move (.t 8), none⟩, []),
          (⟨(some 50), .indexAddr 2 (.t 48) (.t 49), none⟩, []),
          (⟨(some 51), .load true 2 (.t 50), none⟩, []),
          (⟨(some 52), .indexAddr 2 (.t 36) (.t 37), none⟩, []),
          (⟨none, .store 2 (.t 52) (.t 47), none⟩, []),
          (⟨(some 53), .indexAddr 2 (.t 38) (.t 41), none⟩, []),
          (⟨none, .store 2 (.t 53) (.t 51), none⟩, [])])
        (.region [
          ⟨(some 54), .move (.t 0), none⟩,
          ⟨(some 55), .move (.t 9), none⟩,
          ⟨(some 56), .move (.t 12), none⟩,
          ⟨(some 57), .move (.t 8), none⟩,
          ⟨(some 58), .move (.t 3), none⟩,
          ⟨(some 59), .call f_slices_siftDownCmpFunc_Entry [(.t 54), (.t 55), (.t 56), (.t 57), (.t 58)], none⟩])))
      (.region [
        ⟨(some 34), .move (.t 12), none⟩,
        ⟨(some 35), .bin .sub (.t 34) (.c (.int .i64 1)), none⟩,
        ⟨(some 12), .move (.t 35), none⟩]))))))))))⟩

structure F_slices_heapSortCmpFunc_Entry (P : Program) where
  id : FuncId
  slices_siftDownCmpFunc_Entry : F_slices_siftDownCmpFunc_Entry P
  has : Has P id [] (c_slices_heapSortCmpFunc_Entry slices_siftDownCmpFunc_Entry.id)

def c_slices_nextPowerOfTwo (f_math_bits_Len : FuncId) : AFunc := ⟨7, [.tmp 2],
  (.seq
  (.region [
    ⟨(some 2), .move (.c (.int .u64 0)), none⟩])
  (.seq
  (.region [
    ⟨(some 3), .move (.t 0), none⟩,
    ⟨(some 4), .conv .u64 (.t 3), none⟩,
    ⟨(some 5), .call f_math_bits_Len [(.t 4)], none⟩,
    ⟨(some 6), .bin .shl (.c (.int .u64 1)) (.t 5), none⟩,
    ⟨(some 2), .move (.t 6), none⟩])
  .ret))⟩

structure F_slices_nextPowerOfTwo (P : Program) where
  id : FuncId
  math_bits_Len : F_math_bits_Len P
  has : Has P id [] (c_slices_nextPowerOfTwo math_bits_Len.id)

def c_slices_xorshift_Next : AFunc := ⟨33, [.tmp 2],
  (.seq
  (.region [
    ⟨(some 2), .move (.c (.int .u64 0)), none⟩])
  (.seq
  (.draw [
    (⟨(some 3), .move (.t 0), none⟩, []),
    (⟨(some 4), .nop (.t 3), none⟩, []),
    (⟨(some 5), .load false 1 (.t 4), none⟩, []),
    (⟨(some 6), .move (.t 0), none⟩, []),
    (⟨(some 7), .nop (.t 6), none⟩, []),
    (⟨(some 8), .load false 1 (.t 7), none⟩, []),
    (⟨(some 9), .bin .shl (.t 8) (.c (.int .u64 13)), none⟩, []),
    (⟨(some 10), .bin .xor (.t 5) (.t 9), none⟩, []),
    (⟨(some 11), .nop (.t 3), none⟩, []),
    (⟨none, .store 1 (.t 11) (.t 10), none⟩, [])])
  (.seq
  (.draw [
    (⟨(some 12), .move (.t 0), none⟩, []),
    (⟨(some 13), .nop (.t 12), none⟩, []),
    (⟨(some 14), .load false 1 (.t 13), none⟩, []),
    (⟨(some 15), .move (.t 0), none⟩, []),
    (⟨(some 16), .nop (.t 15), none⟩, []),
    (⟨(some 17), .load false 1 (.t 16), none⟩, []),
    (⟨(some 18), .bin .shr (.t 17) (.c (.int .u64 7)), none⟩, []),
    (⟨(some 19), .bin .xor (.t 14) (.t 18), none⟩, []),
    (⟨(some 20), .nop (.t 12), none⟩, []),
    (⟨none, .store 1 (.t 20) (.t 19), none⟩, [])])
  (.seq
  (.draw [
    (⟨(some 21), .move (.t 0), none⟩, []),
    (⟨(some 22), .nop (.t 21), none⟩, []),
    (⟨(some 23), .load false 1 (.t 22), none⟩, []),
    (⟨(some 24), .move (.t 0), none⟩, []),
    (⟨(some 25), .nop (.t 24), none⟩, []),
    (⟨(some 26), .load false 1 (.t 25), none⟩, []),
    (⟨(some 27), .bin .shl (.t 26) (.c (.int .u64 17)), none⟩, []),
    (⟨(some 28), .bin .xor (.t 23) (.t 27), none⟩, []),
    (⟨(some 29), .nop (.t 21), none⟩, []),
    (⟨none, .store 1 (.t 29) (.t 28), none⟩, [])])
  (.seq
  (.region [
    ⟨(some 30), .move (.t 0), none⟩,
    ⟨(some 31), .nop (.t 30), none⟩,
    ⟨(some 32), .load false 1 (.t 31), none⟩,
    ⟨(some 2), .move (.t 32), none⟩])
  .ret)))))⟩

structure F_slices_xorshift_Next (P : Program) where
  id : FuncId
  has : Has P id [] c_slices_xorshift_Next

def c_slices_breakPatternsCmpFunc_Entry (f_slices_nextPowerOfTwo : FuncId) (f_slices_xorshift_Next : FuncId) : AFunc := ⟨67, [],
  (.seq
  (.region [
    ⟨(some 13), .move (.t 2), none⟩,
    ⟨(some 14), .move (.t 1), none⟩,
    ⟨(some 15), .bin .sub (.t 13) (.t 14), none⟩,
    ⟨(some 8), .move (.t 15), none⟩])
  (.seq
  (.region [
    ⟨(some 16), .move (.t 8), none⟩,
    ⟨(some 17), .bin .geq (.t 16) (.c (.int .i64 8)), none⟩])
  (.cond (.t 17)
    (.seq
    (.region [
      ⟨(some 18), .move (.t 8), none⟩,
      ⟨(some 19), .conv .u64 (.t 18), none⟩,
      ⟨(some 9), .alloc [(.int .u64 0)], none⟩,
      ⟨none, .store 1 (.t 9) (.t 19), none⟩])
    (.seq
    (.region [
      ⟨(some 20), .move (.t 8), none⟩,
      ⟨(some 21), .call f_slices_nextPowerOfTwo [(.t 20)], none⟩,
      ⟨(some 10), .move (.t 21), none⟩])
    (.seq
    (.region [
      ⟨(some 22), .move (.t 1), none⟩,
      ⟨(some 23), .move (.t 8), none⟩,
      ⟨(some 24), .bin .quo (.t 23) (.c (.int .i64 4)), none⟩,
      ⟨(some 25), .bin .mul (.t 24) (.c (.int .i64 2)), none⟩,
      ⟨(some 26), .bin .add (.t 22) (.t 25), none⟩,
      ⟨(some 27), .bin .sub (.t 26) (.c (.int .i64 1)), none⟩,
      ⟨(some 11), .move (.t 27), none⟩])
    (.block 0
      (.loop
        (.seq
        (.seq
        (.region [
          ⟨(some 28), .move (.t 11), none⟩,
          ⟨(some 29), .move (.t 1), none⟩,
          ⟨(some 30), .move (.t 8), none⟩,
          ⟨(some 31), .bin .quo (.t 30) (.c (.int .i64 4)), none⟩,
          ⟨(some 32), .bin .mul (.t 31) (.c (.int .i64 2)), none⟩,
          ⟨(some 33), .bin .add (.t 29) (.t 32), none⟩,
          ⟨(some 34), .bin .add (.t 33) (.c (.int .i64 1)), none⟩,
          ⟨(some 35), .bin .leq (.t 28) (.t 34), none⟩])
        (.cond (.t 35)
          .skip
          (.exit 0)))
        (.seq
        (.block 1
          (.seq
          (.region [
            ⟨(some 38), .call f_slices_xorshift_Next [(.t 9)], none⟩,
            ⟨(some 39), .move (.t 10), none⟩,
            ⟨(some 40), .bin .sub (.t 39) (.c (.int .u64 1)), none⟩,
            ⟨(some 41), .bin .and (.t 38) (.t 40), none⟩,
            ⟨(some 42), .conv .i64 (.t 41), none⟩,
            ⟨(some 12), .move (.t 42), none⟩])
          (.seq
          (.seq
          (.region [
            ⟨(some 43), .move (.t 12), none⟩,
            ⟨(some 44), .move (.t 8), none⟩,
            ⟨(some 45), .bin .geq (.t 43) (.t 44), none⟩])
          (.cond (.t 45)
            (.region [
              ⟨(some 46), .move (.t 12), none⟩,
              ⟨(some 47), .move (.t 8), none⟩,
              ⟨(some 48), .bin .sub (.t 46) (.t 47), none⟩,
              ⟨(some 12), .move (.t 48), none⟩])
            .skip))
          (.draw [
            (⟨(some 49), .move (.t 0), none⟩, []),
            (⟨(some 50), .move (.t 11), none⟩, []),
            (⟨(some 51), .move (.t 0), none⟩, []),
            (⟨(some 52), .move (.t 1), none⟩, []),
            (⟨(some 53), .move (.t 12), none⟩, []),
            (⟨(some 54), .bin .add (.t 52) (.t 53), none⟩, []),
            (⟨(some 55), .move (.t 0), none⟩, []),
            (⟨(some 56), .move (.t 1), none⟩, []),
            (⟨(some 57), .move (.t 12), none⟩, []),
            (⟨(some 58), .bin .add (.t 56) (.t 57), none⟩, []),
            (⟨(some 59), .indexAddr 2 (.t 55) (.t 58), none⟩, []),
            (⟨(some 60), .load true 2 (.t 59), none⟩, []),
            (⟨(some 61), .move (.t 0), none⟩, []),
            (⟨(some 62), .move (.t 11), none⟩, []),
            (⟨(some 63), .indexAddr 2 (.t 61) (.t 62), none⟩, []),
            (⟨(some 64), .load true 2 (.t 63), none⟩, []),
            (⟨(some 65), .indexAddr 2 (.t 49) (.t 50), none⟩, []),
            (⟨none, .store 2 (.t 65) (.t 60), none⟩, []),
            (⟨(some 66), .indexAddr 2 (.t 51) (.t 54), none⟩, []),
            (⟨none, .store 2 (.t 66) (.t 64), none⟩, [])]))))
        (.region [
          ⟨(some 36), .move (.t 11), none⟩,
          ⟨(some 37), .bin .add (.t 36) (.c (.int .i64 1)), none⟩,
          ⟨(some 11), .move (.t 37), none⟩]))))))))
    .skip)))⟩

structure F_slices_breakPatternsCmpFunc_Entry (P : Program) where
  id : FuncId
  slices_nextPowerOfTwo : F_slices_nextPowerOfTwo P
  slices_xorshift_Next : F_slices_xorshift_Next P
  has : Has P id [] (c_slices_breakPatternsCmpFunc_Entry slices_nextPowerOfTwo.id slices_xorshift_Next.id)

def c_slices_order2CmpFunc_Entry : AFunc := ⟨32, [.tmp 10, .tmp 11],
  (.seq
  (.region [
    ⟨(some 10), .move (.c (.int .i64 0)), none⟩,
    ⟨(some 11), .move (.c (.int .i64 0)), none⟩])
  (.seq
  (.seq
  (.draw [
    (⟨(some 12), .move (.t 4), none⟩, []),
    (⟨(some 13), .move (.t 0), none⟩, []),
    (⟨(some 14), .move (.t 2), none⟩, []),
    (⟨(some 15), .indexAddr 2 (.t 13) (.t 14), none⟩, []),
    (⟨(some 16), .load true 2 (.t 15), none⟩, []),
    (⟨(some 17), .move (.t 0), none⟩, []),
    (⟨(some 18), .move (.t 1), none⟩, []),
    (⟨(some 19), .indexAddr 2 (.t 17) (.t 18), none⟩, []),
    (⟨(some 20), .load true 2 (.t 19), none⟩, []),
    (⟨(some 21), .callv (.t 12) [(.t 16), (.t 20)], none⟩, []),
    (⟨(some 22), .bin .lss (.t 21) (.c (.int .i64 0)), none⟩, [])])
  (.cond (.t 22)
    (.seq
    (.region [
      ⟨(some 23), .move (.t 3), none⟩,
      ⟨(some 24), .nop (.t 23), none⟩,
      ⟨(some 25), .load false 1 (.t 24), none⟩,
      ⟨(some 26), .bin .add (.t 25) (.c (.int .i64 1)), none⟩,
      ⟨(some 27), .nop (.t 23), none⟩,
      ⟨none, .store 1 (.t 27) (.t 26), none⟩])
    (.seq
    (.region [
      ⟨(some 28), .move (.t 2), none⟩,
      ⟨(some 29), .move (.t 1), none⟩,
      ⟨(some 10), .move (.t 28), none⟩,
      ⟨(some 11), .move (.t 29), none⟩])
    .ret))
    .skip))
  (.seq
  (.region [
    ⟨(some 30), .move (.t 1), none⟩,
    ⟨(some 31), .move (.t 2), none⟩,
    ⟨(some 10), .move (.t 30), none⟩,
    ⟨(some 11), .move (.t 31), none⟩])
  .ret)))⟩

structure F_slices_order2CmpFunc_Entry (P : Program) where
  id : FuncId
  has : Has P id [] c_slices_order2CmpFunc_Entry

def c_slices_medianCmpFunc_Entry (f_slices_order2CmpFunc_Entry : FuncId) : AFunc := ⟨41, [.tmp 12],
  (.seq
  (.region [
    ⟨(some 12), .move (.c (.int .i64 0)), none⟩])
  (.seq
  (.region [
    ⟨(some 14), .move (.t 0), none⟩,
    ⟨(some 15), .move (.t 1), none⟩,
    ⟨(some 16), .move (.t 2), none⟩,
    ⟨(some 17), .move (.t 4), none⟩,
    ⟨(some 18), .move (.t 5), none⟩,
    ⟨(some 19), .call f_slices_order2CmpFunc_Entry [(.t 14), (.t 15), (.t 16), (.t 17), (.t 18)], none⟩,
    ⟨(some 13), .move (.t 19), none⟩,
    ⟨(some 20), .extract (.t 13) 0, none⟩,
    ⟨(some 21), .extract (.t 13) 1, none⟩,
    ⟨(some 1), .move (.t 20), none⟩,
    ⟨(some 2), .move (.t 21), none⟩])
  (.seq
  (.region [
    ⟨(some 23), .move (.t 0), none⟩,
    ⟨(some 24), .move (.t 2), none⟩,
    ⟨(some 25), .move (.t 3), none⟩,
    ⟨(some 26), .move (.t 4), none⟩,
    ⟨(some 27), .move (.t 5), none⟩,
    ⟨(some 28), .call f_slices_order2CmpFunc_Entry [(.t 23), (.t 24), (.t 25), (.t 26), (.t 27)], none⟩,
    ⟨(some 22), .move (.t 28), none⟩,
    ⟨(some 29), .extract (.t 22) 0, none⟩,
    ⟨(some 30), .extract (.t 22) 1, none⟩,
    ⟨(some 2), .move (.t 29), none⟩,
    ⟨(some 3), .move (.t 30), none⟩])
  (.seq
  (.region [
    ⟨(some 32), .move (.t 0), none⟩,
    ⟨(some 33), .move (.t 1), none⟩,
    ⟨(some 34), .move (.t 2), none⟩,
    ⟨(some 35), .move (.t 4), none⟩,
    ⟨(some 36), .move (.t 5), none⟩,
    ⟨(some 37), .call f_slices_order2CmpFunc_Entry [(.t 32), (.t 33), (.t 34), (.t 35), (.t 36)], none⟩,
    ⟨(some 31), .move (.t 37), none⟩,
    ⟨(some 38), .extract (.t 31) 0, none⟩,
    ⟨(some 39), .extract (.t 31) 1, none⟩,
    ⟨(some 1), .move (.t 38), none⟩,
    ⟨(some 2), .move (.t 39), none⟩])
  (.seq
  (.region [
    ⟨(some 40), .move (.t 2), none⟩,
    ⟨(some 12), .move (.t 40), none⟩])
  .ret)))))⟩

structure F_slices_medianCmpFunc_Entry (P : Program) where
  id : FuncId
  slices_order2CmpFunc_Entry : F_slices_order2CmpFunc_Entry P
  has : Has P id [] (c_slices_medianCmpFunc_Entry slices_order2CmpFunc_Entry.id)

def c_slices_medianAdjacentCmpFunc_Entry (f_slices_medianCmpFunc_Entry : FuncId) : AFunc := ⟨18, [.tmp 8],
  (.seq
  (.region [
    ⟨(some 8), .move (.c (.int .i64 0)), none⟩])
  (.seq
  (.region [
    ⟨(some 9), .move (.t 0), none⟩,
    ⟨(some 10), .move (.t 1), none⟩,
    ⟨(some 11), .bin .sub (.t 10) (.c (.int .i64 1)), none⟩,
    ⟨(some 12), .move (.t 1), none⟩,
    ⟨(some 13), .move (.t 1), none⟩,
    ⟨(some 14), .bin .add (.t 13) (.c (.int .i64 1)), none⟩,
    ⟨(some 15), .move (.t 2), none⟩,
    ⟨(some 16), .move (.t 3), none⟩,
    ⟨(some 17), .call f_slices_medianCmpFunc_Entry [(.t 9), (.t 11), (.t 12), (.t 14), (.t 15), (.t 16)], none⟩,
    ⟨(some 8), .move (.t 17), none⟩])
  .ret))⟩

structure F_slices_medianAdjacentCmpFunc_Entry (P : Program) where
  id : FuncId
  slices_medianCmpFunc_Entry : F_slices_medianCmpFunc_Entry P
  has : Has P id [] (c_slices_medianAdjacentCmpFunc_Entry slices_medianCmpFunc_Entry.id)

def c_slices_choosePivotCmpFunc_Entry (f_slices_medianAdjacentCmpFunc_Entry : FuncId) (f_slices_medianCmpFunc_Entry : FuncId) : AFunc := ⟨63, [.tmp 8, .tmp 9],
  (.seq
  (.region [
    ⟨(some 8), .move (.c (.int .i64 0)), none⟩,
    ⟨(some 9), .move (.c (.int .i64 0)), none⟩])
  (.seq
  (.region [
    ⟨(some 15), .move (.t 2), none⟩,
    ⟨(some 16), .move (.t 1), none⟩,
    ⟨(some 17), .bin .sub (.t 15) (.t 16), none⟩,
    ⟨(some 10), .move (.t 17), none⟩])
  (.seq
  (.region [
    ⟨(some 11), .alloc [(.int .i64 0)], none⟩])
  (.seq
  (.region [
    ⟨(some 18), .move (.t 1), none⟩,
    ⟨(some 19), .move (.t 10), none⟩,
    ⟨(some 20), .bin .quo (.t 19) (.c (.int .i64 4)), none⟩,
    ⟨(some 21), .bin .mul (.t 20) (.c (.int .i64 1)), none⟩,
    ⟨(some 22), .bin .add (.t 18) (.t 21), none⟩,
    ⟨(some 12), .move (.t 22), none⟩])
  (.seq
  (.region [
    ⟨(some 23), .move (.t 1), none⟩,
    ⟨(some 24), .move (.t 10), none⟩,
    ⟨(some 25), .bin .quo (.t 24) (.c (.int .i64 4)), none⟩,
    ⟨(some 26), .bin .mul (.t 25) (.c (.int .i64 2)), none⟩,
    ⟨(some 27), .bin .add (.t 23) (.t 26), none⟩,
    ⟨(some 13), .move (.t 27), none⟩])
  (.seq
  (.region [
    ⟨(some 28), .move (.t 1), none⟩,
    ⟨(some 29), .move (.t 10), none⟩,
    ⟨(some 30), .bin .quo (.t 29) (.c (.int .i64 4)), none⟩,
    ⟨(some 31), .bin .mul (.t 30) (.c (.int .i64 3)), none⟩,
    ⟨(some 32), .bin .add (.t 28) (.t 31), none⟩,
    ⟨(some 14), .move (.t 32), none⟩])
  (.seq
  (.seq
  (.region [
    ⟨(some 33), .move (.t 10), none⟩,
    ⟨(some 34), .bin .geq (.t 33) (.c (.int .i64 8)), none⟩])
  (.cond (.t 34)
    (.seq
    (.seq
    (.region [
      ⟨(some 35), .move (.t 10), none⟩,
      ⟨(some 36), .bin .geq (.t 35) (.c (.int .i64 50)), none⟩])
    (.cond (.t 36)
      (.seq
      (.region [
        ⟨(some 37), .move (.t 0), none⟩,
        ⟨(some 38), .move (.t 12), none⟩,
        ⟨(some 39), .move (.t 3), none⟩,
        ⟨(some 40), .call f_slices_medianAdjacentCmpFunc_Entry [(.t 37), (.t 38), (.t 11), (.t 39)], none⟩,
        ⟨(some 12), .move (.t 40), none⟩])
      (.seq
      (.region [
        ⟨(some 41), .move (.t 0), none⟩,
        ⟨(some 42), .move (.t 13), none⟩,
        ⟨(some 43), .move (.t 3), none⟩,
        ⟨(some 44), .call f_slices_medianAdjacentCmpFunc_Entry [(.t 41), (.t 42), (.t 11), (.t 43)], none⟩,
        ⟨(some 13), .move (.t 44), none⟩])
      (.region [
        ⟨(some 45), .move (.t 0), none⟩,
        ⟨(some 46), .move (.t 14), none⟩,
        ⟨(some 47), .move (.t 3), none⟩,
        ⟨(some 48), .call f_slices_medianAdjacentCmpFunc_Entry [(.t 45), (.t 46), (.t 11), (.t 47)], none⟩,
        ⟨(some 14), .move (.t 48), none⟩])))
      .skip))
    (.region [
      ⟨(some 49), .move (.t 0), none⟩,
      ⟨(some 50), .move (.t 12), none⟩,
      ⟨(some 51), .move (.t 13), none⟩,
      ⟨(some 52), .move (.t 14), none⟩,
      ⟨(some 53), .move (.t 3), none⟩,
      ⟨(some 54), .call f_slices_medianCmpFunc_Entry [(.t 49), (.t 50), (.t 51), (.t 52), (.t 11), (.t 53)], none⟩,
      ⟨(some 13), .move (.t 54), none⟩]))
    .skip))
  (.seq
  (.region [
    ⟨(some 55), .load false 1 (.t 11), none⟩])
  (.block 0
    (.seq
    (.region [
      ⟨(some 58), .bin .eql (.t 55) (.c (.int .i64 0)), none⟩,
      ⟨(some 57), .move (.t 58), none⟩])
    (.cond (.t 57)
      (.seq
      (.region [
        ⟨(some 59), .move (.t 13), none⟩,
        ⟨(some 8), .move (.t 59), none⟩,
        ⟨(some 9), .move (.c (.int .i64 1)), none⟩])
      .ret)
      (.seq
      (.region [
        ⟨(some 61), .bin .eql (.t 55) (.c (.int .i64 12)), none⟩,
        ⟨(some 60), .move (.t 61), none⟩])
      (.cond (.t 60)
        (.seq
        (.region [
          ⟨(some 62), .move (.t 13), none⟩,
          ⟨(some 8), .move (.t 62), none⟩,
          ⟨(some 9), .move (.c (.int .i64 2)), none⟩])
        .ret)
        (.seq
        (.region [
          ⟨(some 56), .move (.t 13), none⟩,
          ⟨(some 8), .move (.t 56), none⟩,
          ⟨(some 9), .move (.c (.int .i64 0)), none⟩])
        .ret))))))))))))))⟩

structure F_slices_choosePivotCmpFunc_Entry (P : Program) where
  id : FuncId
  slices_medianAdjacentCmpFunc_Entry : F_slices_medianAdjacentCmpFunc_Entry P
  slices_medianCmpFunc_Entry : F_slices_medianCmpFunc_Entry P
  has : Has P id [] (c_slices_choosePivotCmpFunc_Entry slices_medianAdjacentCmpFunc_Entry.id slices_medianCmpFunc_Entry.id)

def c_slices_reverseRangeCmpFunc_Entry : AFunc := ⟨34, [],
  (.seq
  (.region [
    ⟨(some 10), .move (.t 1), none⟩,
    ⟨(some 8), .move (.t 10), none⟩])
  (.seq
  (.region [
    ⟨(some 11), .move (.t 2), none⟩,
    ⟨(some 12), .bin .sub (.t 11) (.c (.int .i64 1)), none⟩,
    ⟨(some 9), .move (.t 12), none⟩])
  (.block 0
    (.loop
      (.seq
      (.seq
      (.region [
        ⟨(some 13), .move (.t 8), none⟩,
        ⟨(some 14), .move (.t 9), none⟩,
        ⟨(some 15), .bin .lss (.t 13) (.t 14), none⟩])
      (.cond (.t 15)
        .skip
        (.exit 0)))
      (.block 1
        (.seq
        (.draw [
          (⟨(some 16), .move (.t 0), none⟩, []),
          (⟨(some 17), .move (.t 8), none⟩, []),
          (⟨(some 18), .move (.t 0), none⟩, []),
          (⟨(some 19), .move (.t 9), none⟩, []),
          (⟨(some 20), .move (.t 0), none⟩, []),
          (⟨(some 21), .move (.t 9), none⟩, []),
          (⟨(some 22), .indexAddr 2 (.t 20) (.t 21), none⟩, []),
          (⟨(some 23), .load true 2 (.t 22), none⟩, []),
          (⟨(some 24), .move (.t 0), none⟩, []),
          (⟨(some 25), .move (.t 8), none⟩, []),
          (⟨(some 26), .indexAddr 2 (.t 24) (.t 25), none⟩, []),
          (⟨(some 27), .load true 2 (.t 26), none⟩, []),
          (⟨(some 28), .indexAddr 2 (.t 16) (.t 17), none⟩, []),
          (⟨none, .store 2 (.t 28) (.t 23), none⟩, []),
          (⟨(some 29), .indexAddr 2 (.t 18) (.t 19), none⟩, []),
          (⟨none, .store 2 (.t 29) (.t 27), none⟩, [])])
        (.seq
        (.region [
          ⟨(some 30), .move (.t 8), none⟩,
          ⟨(some 31), .bin .add (.t 30) (.c (.int .i64 1)), none⟩,
          ⟨(some 8), .move (.t 31), none⟩])
        (.region [
          ⟨(some 32), .move (.t 9), none⟩,
          ⟨(some 33), .bin .sub (.t 32) (.c (.int .i64 1)), none⟩,
          ⟨(some 9), .move (.t 33), none⟩])))))))))⟩

structure F_slices_reverseRangeCmpFunc_Entry (P : Program) where
  id : FuncId
  has : Has P id [] c_slices_reverseRangeCmpFunc_Entry

def c_slices_partialInsertionSortCmpFunc_Entry : AFunc := ⟨141, [.tmp 8],
  (.seq
  (.region [
    ⟨(some 8), .move (.c (.bool false)), none⟩])
  (.seq
  (.region [
    ⟨(some 13), .move (.t 1), none⟩,
    ⟨(some 14), .bin .add (.t 13) (.c (.int .i64 1)), none⟩,
    ⟨(some 9), .move (.t 14), none⟩])
  (.seq
  (.seq
  (.region [
    ⟨(some 10), .move (.c (.int .i64 0)), none⟩])
  (.block 0
    (.loop
      (.seq
      (.seq
      (.region [
        ⟨(some 15), .move (.t 10), none⟩,
        ⟨(some 16), .bin .lss (.t 15) (.c (.int .i64 5)), none⟩])
      (.cond (.t 16)
        .skip
        (.exit 0)))
      (.seq
      (.block 1
        (.seq
        (.block 2
          (.loop
            (.seq
            (.seq
            (.draw [
              (⟨(some 19), .move (.t 9), none⟩, []),
              (⟨(some 20), .move (.t 2), none⟩, []),
              (⟨(some 21), .bin .lss (.t 19) (.t 20), none⟩, []),
              (⟨(some 22), .move (.t 21), none⟩, []),
              (⟨(some 23), .move (.t 3), some (some 22, true)⟩, []),
              (⟨(some 24), .move (.t 0), some (some 22, true)⟩, []),
              (⟨(some 25), .move (.t 9), some (some 22, true)⟩, []),
              (⟨(some 26), .indexAddr 2 (.t 24) (.t 25), some (some 22, true)⟩, []),
              (⟨(some 27), .load true 2 (.t 26), some (some 22, true)⟩, []),
              (⟨(some 28), .move (.t 0), some (some 22, true)⟩, []),
              (⟨(some 29), .move (.t 9), some (some 22, true)⟩, []),
              (⟨(some 30), .bin .sub (.t 29) (.c (.int .i64 1)), some (some 22, true)⟩, []),
              (⟨(some 31), .indexAddr 2 (.t 28) (.t 30), some (some 22, true)⟩, []),
              (⟨(some 32), .load true 2 (.t 31), some (some 22, true)⟩, []),
              (⟨(some 33), .callv (.t 23) [(.t 27), (.t 32)], some (some 22, true)⟩, []),
              (⟨(some 34), .bin .lss (.t 33) (.c (.int .i64 0)), some (some 22, true)⟩, []),
              (⟨(some 35), .un .not (.t 34), some (some 22, true)⟩, []),
              (⟨(some 36), .pick (.t 22) (.t 35) (.c (.bool false)), none⟩, [])])
            (.cond (.t 36)
              .skip
              (.exit 2)))
            (.block 3
              (.region [
                ⟨(some 37), .move (.t 9), none⟩,
                ⟨(some 38), .bin .add (.t 37) (.c (.int .i64 1)), none⟩,
                ⟨(some 9), .move (.t 38), none⟩])))))
        (.seq
        (.seq
        (.region [
          ⟨(some 39), .move (.t 9), none⟩,
          ⟨(some 40), .move (.t 2), none⟩,
          ⟨(some 41), .bin .eql (.t 39) (.t 40), none⟩])
        (.cond (.t 41)
          (.seq
          (.region [
            ⟨(some 8), .move (.c (.bool true)), none⟩])
          .ret)
          .skip))
        (.seq
        (.seq
        (.region [
          ⟨(some 42), .move (.t 2), none⟩,
          ⟨(some 43), .move (.t 1), none⟩,
          ⟨(some 44), .bin .sub (.t 42) (.t 43), none⟩,
          ⟨(some 45), .bin .lss (.t 44) (.c (.int .i64 50)), none⟩])
        (.cond (.t 45)
          (.seq
          (.region [
            ⟨(some 8), .move (.c (.bool false)), none⟩])
          .ret)
          .skip))
        (.seq
        (.draw [
          (⟨(some 46), .move (.t 0), none⟩, []),
          (⟨(some 47), .move (.t 9), none⟩, []),
          (⟨(some 48), .move (.t 0), none⟩, []),
          (⟨(some 49), .move (.t 9), none⟩, []),
          (⟨(some 50), .bin .sub (.t 49) (.c (.int .i64 1)), none⟩, []),
          (⟨(some 51), .move (.t 0), none⟩, []),
          (⟨(some 52), .move (.t 9), none⟩, []),
          (⟨(some 53), .bin .sub (.t 52) (.c (.int .i64 1)), none⟩, []),
          (⟨(some 54), .indexAddr 2 (.t 51) (.t 53), none⟩, []),
          (⟨(some 55), .load true 2 (.t 54), none⟩, []),
          (⟨(some 56), .move (.t 0), none⟩, []),
          (⟨(some 57), .move (.t 9), none⟩, []),
          (⟨(some 58), .indexAddr 2 (.t 56) (.t 57), none⟩, []),
          (⟨(some 59), .load true 2 (.t 58), none⟩, []),
          (⟨(some 60), .indexAddr 2 (.t 46) (.t 47), none⟩, []),
          (⟨none, .store 2 (.t 60) (.t 55), none⟩, []),
          (⟨(some 61), .indexAddr 2 (.t 48) (.t 50), none⟩, []),
          (⟨none, .store 2 (.t 61) (.t 59), none⟩, [])])
        (.seq
        (.seq
        (.region [
          ⟨(some 62), .move (.t 9), none⟩,
          ⟨(some 63), .move (.t 1), none⟩,
          ⟨(some 64), .bin .sub (.t 62) (.t 63), none⟩,
          ⟨(some 65), .bin .geq (.t 64) (.c (.int .i64 2)), none⟩])
        (.cond (.t 65)
          (.seq
          (.region [
            ⟨(some 66), .move (.t 9), none⟩,
            ⟨(some 67), .bin .sub (.t 66) (.c (.int .i64 1)), none⟩,
            ⟨(some 11), .move (.t 67), none⟩])
          (.block 4
            (.loop
              (.seq
              (.seq
              (.region [
                ⟨(some 68), .move (.t 11), none⟩,
                ⟨(some 69), .bin .geq (.t 68) (.c (.int .i64 1)), none⟩])
              (.cond (.t 69)
                .skip
                (.exit 4)))
              (.seq
              (.block 5
                (.seq
                (.seq
                (.draw [
                  (⟨(some 72), .move (.t 3), none⟩, []),
                  (⟨(some 73), .move (.t 0), none⟩, []),
                  (⟨(some 74), .move (.t 11), none⟩, []),
                  (⟨(some 75), .indexAddr 2 (.t 73) (.t 74), none⟩, []),
                  (⟨(some 76), .load true 2 (.t 75), none⟩, []),
                  (⟨(some 77), .move (.t 0), none⟩, []),
                  (⟨(some 78), .move (.t 11), none⟩, []),
                  (⟨(some 79), .bin .sub (.t 78) (.c (.int .i64 1)), none⟩, []),
                  (⟨(some 80), .indexAddr 2 (.t 77) (.t 79), none⟩, []),
                  (⟨(some 81), .load true 2 (.t 80), none⟩, []),
                  (⟨(some 82), .callv (.t 72) [(.t 76), (.t 81)], none⟩, []),
                  (⟨(some 83), .bin .lss (.t 82) (.c (.int .i64 0)), none⟩, []),
                  (⟨(some 84), .un .not (.t 83), none⟩, [])])
                (.cond (.t 84)
                  (.exit 4)
                  .skip))
                (.draw [
                  (⟨(some 85), .move (.t 0), none⟩, []),
                  (⟨(some 86), .move (.t 11), none⟩, []),
                  (⟨(some 87), .move (.t 0), none⟩, []),
                  (⟨(some 88), .move (.t 11), none⟩, []),
                  (⟨(some 89), .bin .sub (.t 88) (.c (.int .i64 1)), none⟩, []),
                  (⟨(some 90), .move (.t 0), none⟩, []),
                  (⟨(some 91), .move (.t 11), none⟩, []),
                  (⟨(some 92), .bin .sub (.t 91) (.c (.int .i64 1)), none⟩, []),
                  (⟨(some 93), .indexAddr 2 (.t 90) (.t 92), none⟩, []),
                  (⟨(some 94), .load true 2 (.t 93), none⟩, []),
                  (⟨(some 95), .move (.t 0), none⟩, []),
                  (⟨(some 96), .move (.t 11), none⟩, []),
                  (⟨(some 97), .indexAddr 2 (.t 95) (.t 96), none⟩, []),
                  (⟨(some 98), .load true 2 (.t 97), none⟩, []),
                  (⟨(some 99), .indexAddr 2 (.t 85) (.t 86), none⟩, []),
                  (⟨none, .store 2 (.t 99) (.t 94), none⟩, []),
                  (⟨(some 100), .indexAddr 2 (.t 87) (.t 89), none⟩, []),
                  (⟨none, .store 2 (.t 100) (.t 98), none⟩, [])])))
              (.region [
                ⟨(some 70), .move (.t 11), none⟩,
                ⟨(some 71), .bin .sub (.t 70) (.c (.int .i64 1)), none⟩,
                ⟨(some 11), .move (.t 71), none⟩]))))))
          .skip))
        (.seq
        (.region [
          ⟨(some 101), .move (.t 2), none⟩,
          ⟨(some 102), .move (.t 9), none⟩,
          ⟨(some 103), .bin .sub (.t 101) (.t 102), none⟩,
          ⟨(some 104), .bin .geq (.t 103) (.c (.int .i64 2)), none⟩])
        (.cond (.t 104)
          (.seq
          (.region [
            ⟨(some 105), .move (.t 9), none⟩,
            ⟨(some 106), .bin .add (.t 105) (.c (.int .i64 1)), none⟩,
            ⟨(some 12), .move (.t 106), none⟩])
          (.block 6
            (.loop
              (.seq
              (.seq
              (.region [
                ⟨(some 107), .move (.t 12), none⟩,
                ⟨(some 108), .move (.t 2), none⟩,
                ⟨(some 109), .bin .lss (.t 107) (.t 108), none⟩])
              (.cond (.t 109)
                .skip
                (.exit 6)))
              (.seq
              (.block 7
                (.seq
                (.seq
                (.draw [
                  (⟨(some 112), .move (.t 3), none⟩, []),
                  (⟨(some 113), .move (.t 0), none⟩, []),
                  (⟨(some 114), .move (.t 12), none⟩, []),
                  (⟨(some 115), .indexAddr 2 (.t 113) (.t 114), none⟩, []),
                  (⟨(some 116), .load true 2 (.t 115), none⟩, []),
                  (⟨(some 117), .move (.t 0), none⟩, []),
                  (⟨(some 118), .move (.t 12), none⟩, []),
                  (⟨(some 119), .bin .sub (.t 118) (.c (.int .i64 1)), none⟩, []),
                  (⟨(some 120), .indexAddr 2 (.t 117) (.t 119), none⟩, []),
                  (⟨(some 121), .load true 2 (.t 120), none⟩, []),
                  (⟨(some 122), .callv (.t 112) [(.t 116), (.t 121)], none⟩, []),
                  (⟨(some 123), .bin .lss (.t 122) (.c (.int .i64 0)), none⟩, []),
                  (⟨(some 124), .un .not (.t 123), none⟩, [])])
                (.cond (.t 124)
                  (.exit 6)
                  .skip))
                (.draw [
                  (⟨(some 125), .move (.t 0), none⟩, []),
                  (⟨(some 126), .move (.t 12), none⟩, []),
                  (⟨(some 127), .move (.t 0), none⟩, []),
                  (⟨(some 128), .move (.t 12), none⟩, []),
                  (⟨(some 129), .bin .sub (.t 128) (.c (.int .i64 1)), none⟩, []),
                  (⟨(some 130), .move (.t 0), none⟩, []),
                  (⟨(some 131), .move (.t 12), none⟩, []),
                  (⟨(some 132), .bin .sub (.t 131) (.c (.int .i64 1)), none⟩, []),
                  (⟨(some 133), .indexAddr 2 (.t 130) (.t 132), none⟩, []),
                  (⟨(some 134), .load true 2 (.t 133), none⟩, []),
                  (⟨(some 135), .move (.t 0), none⟩, []),
                  (⟨(some 136), .move (.t 12), none⟩, []),
                  (⟨(some 137), .indexAddr 2 (.t 135) (.t 136), none⟩, []),
                  (⟨(some 138), .load true 2 (.t 137), none⟩, []),
                  (⟨(some 139), .indexAddr 2 (.t 125) (.t 126), none⟩, []),
                  (⟨none, .store 2 (.t 139) (.t 134), none⟩, []),
                  (⟨(some 140), .indexAddr 2 (.t 127) (.t 129), none⟩, []),
                  (⟨none, .store 2 (.t 140) (.t 138), none⟩, [])])))
              (.region [
                ⟨(some 110), .move (.t 12), none⟩,
                ⟨(some 111), .bin .add (.t 110) (.c (.int .i64 1)), none⟩,
                ⟨(some 12), .move (.t 111), none⟩]))))))
          .skip))))))))
      (.region [
        ⟨(some 17), .move (.t 10), none⟩,
        ⟨(some 18), .bin .add (.t 17) (.c (.int .i64 1)), none⟩,
        ⟨(some 10), .move (.t 18), none⟩]))))))
  (.seq
  (.region [
    ⟨(some 8), .move (.c (.bool false)), none⟩])
  .ret))))⟩

structure F_slices_partialInsertionSortCmpFunc_Entry (P : Program) where
  id : FuncId
  has : Has P id [] c_slices_partialInsertionSortCmpFunc_Entry

def c_slices_partitionEqualCmpFunc_Entry : AFunc := ⟨90, [.tmp 10],
  (.seq
  (.region [
    ⟨(some 10), .move (.c (.int .i64 0)), none⟩])
  (.seq
  (.draw [
    (⟨(some 13), .move (.t 0), none⟩, []),
    (⟨(some 14), .move (.t 1), none⟩, []),
    (⟨(some 15), .move (.t 0), none⟩, []),
    (⟨(some 16), .move (.t 3), none⟩, []),
    (⟨(some 17), .move (.t 0), none⟩, []),
    (⟨(some 18), .move (.t 3), none⟩, []),
    (⟨(some 19), .indexAddr 2 (.t 17) (.t 18), none⟩, []),
    (⟨(some 20), .load true 2 (.t 19), none⟩, []),
    (⟨(some 21), .move (.t 0), none⟩, []),
    (⟨(some 22), .move (.t 1), none⟩, []),
    (⟨(some 23), .indexAddr 2 (.t 21) (.t 22), none⟩, []),
    (⟨(some 24), .load true 2 (.t 23), none⟩, []),
    (⟨(some 25), .indexAddr 2 (.t 13) (.t 14), none⟩, []),
    (⟨none, .store 2 (.t 25) (.t 20), none⟩, []),
    (⟨(some 26), .indexAddr 2 (.t 15) (.t 16), none⟩, []),
    (⟨none, .store 2 (.t 26) (.t 24), none⟩, [])])
  (.seq
  (.region [
    ⟨(some 27), .move (.t 1), none⟩,
    ⟨(some 28), .bin .add (.t 27) (.c (.int .i64 1)), none⟩,
    ⟨(some 29), .move (.t 2), none⟩,
    ⟨(some 30), .bin .sub (.t 29) (.c (.int .i64 1)), none⟩,
    ⟨(some 11), .move (.t 28), none⟩,
    ⟨(some 12), .move (.t 30), none⟩])
  (.seq
  (.block 0
    (.loop
      (.block 1
        (.seq
        (.block 2
          (.loop
            (.seq
            (.seq
            (.draw [
              (⟨(some 31), .move (.t 11), none⟩, []),
              (⟨(some 32), .move (.t 12), none⟩, []),
              (⟨(some 33), .bin .leq (.t 31) (.t 32), none⟩, []),
              (⟨(some 34), .move (.t 33), none⟩, []),
              (⟨(some 35), .move (.t 4), some (some 34, true)⟩, []),
              (⟨(some 36), .move (.t 0), some (some 34, true)⟩, []),
              (⟨(some 37), .move (.t 1), some (some 34, true)⟩, []),
              (⟨(some 38), .indexAddr 2 (.t 36) (.t 37), some (some 34, true)⟩, []),
              (⟨(some 39), .load true 2 (.t 38), some (some 34, true)⟩, []),
              (⟨(some 40), .move (.t 0), some (some 34, true)⟩, []),
              (⟨(some 41), .move (.t 11), some (some 34, true)⟩, []),
              (⟨(some 42), .indexAddr 2 (.t 40) (.t 41), some (some 34, true)⟩, []),
              (⟨(some 43), .load true 2 (.t 42), some (some 34, true)⟩, []),
              (⟨(some 44), .callv (.t 35) [(.t 39), (.t 43)], some (some 34, true)⟩, []),
              (⟨(some 45), .bin .lss (.t 44) (.c (.int .i64 0)), some (some 34, true)⟩, []),
              (⟨(some 46), .un .not (.t 45), some (some 34, true)⟩, []),
              (⟨(some 47), .pick (.t 34) (.t 46) (.c (.bool false)), none⟩, [])])
            (.cond (.t 47)
              .skip
              (.exit 2)))
            (.block 3
              (.region [
                ⟨(some 48), .move (.t 11), none⟩,
                ⟨(some 49), .bin .add (.t 48) (.c (.int .i64 1)), none⟩,
                ⟨(some 11), .move (.t 49), none⟩])))))
        (.seq
        (.block 4
          (.loop
            (.seq
            (.seq
            (.draw [
              (⟨(some 50), .move (.t 11), none⟩, []),
              (⟨(some 51), .move (.t 12), none⟩, []),
              (⟨(some 52), .bin .leq (.t 50) (.t 51), none⟩, []),
              (⟨(some 53), .move (.t 52), none⟩, []),
              (⟨(some 54), .move (.t 4), some (some 53, true)⟩, []),
              (⟨(some 55), .move (.t 0), some (some 53, true)⟩, []),
              (⟨(some 56), .move (.t 1), some (some 53, true)⟩, []),
              (⟨(some 57), .indexAddr 2 (.t 55) (.t 56), some (some 53, true)⟩, []),
              (⟨(some 58), .load true 2 (.t 57), some (some 53, true)⟩, []),
              (⟨(some 59), .move (.t 0), some (some 53, true)⟩, []),
              (⟨(some 60), .move (.t 12), some (some 53, true)⟩, []),
              (⟨(some 61), .indexAddr 2 (.t 59) (.t 60), some (some 53, true)⟩, []),
              (⟨(some 62), .load true 2 (.t 61), some (some 53, true)⟩, []),
              (⟨(some 63), .callv (.t 54) [(.t 58), (.t 62)], some (some 53, true)⟩, []),
              (⟨(some 64), .bin .lss (.t 63) (.c (.int .i64 0)), some (some 53, true)⟩, []),
              (⟨(some 65), .pick (.t 53) (.t 64) (.c (.bool false)), none⟩, [])])
            (.cond (.t 65)
              .skip
              (.exit 4)))
            (.block 5
              (.region [
                ⟨(some 66), .move (.t 12), none⟩,
                ⟨(some 67), .bin .sub (.t 66) (.c (.int .i64 1)), none⟩,
                ⟨(some 12), .move (.t 67), none⟩])))))
        (.seq
        (.seq
        (.region [
          ⟨(some 68), .move (.t 11), none⟩,
          ⟨(some 69), .move (.t 12), none⟩,
          ⟨(some 70), .bin .gtr (.t 68) (.t 69), none⟩])
        (.cond (.t 70)
          (.exit 0)
          .skip))
        (.seq
        (.draw [
          (⟨(some 71), .move (.t 0), none⟩, []),
          (⟨(some 72), .move (.t 11), none⟩, []),
          (⟨(some 73), .move (.t 0), none⟩, []),
          (⟨(some 74), .move (.t 12), none⟩, []),
          (⟨(some 75), .move (.t 0), none⟩, []),
          (⟨(some 76), .move (.t 12), none⟩, []),
          (⟨(some 77), .indexAddr 2 (.t 75) (.t 76), none⟩, []),
          (⟨(some 78), .load true 2 (.t 77), none⟩, []),
          (⟨(some 79), .move (.t 0), none⟩, []),
          (⟨(some 80), .move (.t 11), none⟩, []),
          (⟨(some 81), .indexAddr 2 (.t 79) (.t 80), none⟩, []),
          (⟨(some 82), .load true 2 (.t 81), none⟩, []),
          (⟨(some 83), .indexAddr 2 (.t 71) (.t 72), none⟩, []),
          (⟨none, .store 2 (.t 83) (.t 78), none⟩, []),
          (⟨(some 84), .indexAddr 2 (.t 73) (.t 74), none⟩, []),
          (⟨none, .store 2 (.t 84) (.t 82), none⟩, [])])
        (.seq
        (.region [
          ⟨(some 85), .move (.t 11), none⟩,
          ⟨(some 86), .bin .add (.t 85) (.c (.int .i64 1)), none⟩,
          ⟨(some 11), .move (.t 86), none⟩])
        (.region [
          ⟨(some 87), .move (.t 12), none⟩,
          ⟨(some 88), .bin .sub (.t 87) (.c (.int .i64 1)), none⟩,
          ⟨(some 12), .move (.t 88), none⟩])))))))))
  (.seq
  (.region [
    ⟨(some 89), .move (.t 11), none⟩,
    ⟨(some 10), .move (.t 89), none⟩])
  .ret)))))⟩

structure F_slices_partitionEqualCmpFunc_Entry (P : Program) where
  id : FuncId
  has : Has P id [] c_slices_partitionEqualCmpFunc_Entry

def c_slices_partitionCmpFunc_Entry : AFunc := ⟨178, [.tmp 10, .tmp 11],
  (.seq
  (.region [
    ⟨(some 10), .move (.c (.int .i64 0)), none⟩,
    ⟨(some 11), .move (.c (.bool false)), none⟩])
  (.seq
  (.draw [
    (⟨(some 14), .move (.t 0), none⟩, []),
    (⟨(some 15), .move (.t 1), none⟩, []),
    (⟨(some 16), .move (.t 0), none⟩, []),
    (⟨(some 17), .move (.t 3), none⟩, []),
    (⟨(some 18), .move (.t 0), none⟩, []),
    (⟨(some 19), .move (.t 3), none⟩, []),
    (⟨(some 20), .indexAddr 2 (.t 18) (.t 19), none⟩, []),
    (⟨(some 21), .load true 2 (.t 20), none⟩, []),
    (⟨(some 22), .move (.t 0), none⟩, []),
    (⟨(some 23), .move (.t 1), none⟩, []),
    (⟨(some 24), .indexAddr 2 (.t 22) (.t 23), none⟩, []),
    (⟨(some 25), .load true 2 (.t 24), none⟩, []),
    (⟨(some 26), .indexAddr 2 (.t 14) (.t 15), none⟩, []),
    (⟨none, .store 2 (.t 26) (.t 21), none⟩, []),
    (⟨(some 27), .indexAddr 2 (.t 16) (.t 17), none⟩, []),
    (⟨none, .store 2 (.t 27) (.t 25), none⟩, [])])
  (.seq
  (.region [
    ⟨(some 28), .move (.t 1), none⟩,
    ⟨(some 29), .bin .add (.t 28) (.c (.int .i64 1)), none⟩,
    ⟨(some 30), .move (.t 2), none⟩,
    ⟨(some 31), .bin .sub (.t 30) (.c (.int .i64 1)), none⟩,
    ⟨(some 12), .move (.t 29), none⟩,
    ⟨(some 13), .move (.t 31), none⟩])
  (.seq
  (.block 0
    (.loop
      (.seq
      (.seq
      (.draw [
        (⟨(some 32), .move (.t 12), none⟩, []),
        (⟨(some 33), .move (.t 13), none⟩, []),
        (⟨(some 34), .bin .leq (.t 32) (.t 33), none⟩, []),
        (⟨(some 35), .move (.t 34), none⟩, []),
        (⟨(some 36), .move (.t 4), some (some 35, true)⟩, []),
        (⟨(some 37), .move (.t 0), some (some 35, true)⟩, []),
        (⟨(some 38), .move (.t 12), some (some 35, true)⟩, []),
        (⟨(some 39), .indexAddr 2 (.t 37) (.t 38), some (some 35, true)⟩, []),
        (⟨(some 40), .load true 2 (.t 39), some (some 35, true)⟩, []),
        (⟨(some 41), .move (.t 0), some (some 35, true)⟩, []),
        (⟨(some 42), .move (.t 1), some (some 35, true)⟩, []),
        (⟨(some 43), .indexAddr 2 (.t 41) (.t 42), some (some 35, true)⟩, []),
        (⟨(some 44), .load true 2 (.t 43), some (some 35, true)⟩, []),
        (⟨(some 45), .callv (.t 36) [(.t 40), (.t 44)], some (some 35, true)⟩, []),
        (⟨(some 46), .bin .lss (.t 45) (.c (.int .i64 0)), some (some 35, true)⟩, []),
        (⟨(some 47), .pick (.t 35) (.t 46) (.c (.bool false)), none⟩, [])])
      (.cond (.t 47)
        .skip
        (.exit 0)))
      (.block 1
        (.region [
          ⟨(some 48), .move (.t 12), none⟩,
          ⟨(some 49), .bin .add (.t 48) (.c (.int .i64 1)), none⟩,
          ⟨(some 12), .move (.t 49), none⟩])))))
  (.seq
  (.block 2
    (.loop
      (.seq
      (.seq
      (.draw [
        (⟨(some 50), .move (.t 12), none⟩, []),
        (⟨(some 51), .move (.t 13), none⟩, []),
        (⟨(some 52), .bin .leq (.t 50) (.t 51), none⟩, []),
        (⟨(some 53), .move (.t 52), none⟩, []),
        (⟨(some 54), .move (.t 4), some (some 53, true)⟩, []),
        (⟨(some 55), .move (.t 0), some (some 53, true)⟩, []),
        (⟨(some 56), .move (.t 13), some (some 53, true)⟩, []),
        (⟨(some 57), .indexAddr 2 (.t 55) (.t 56), some (some 53, true)⟩, []),
        (⟨(some 58), .load true 2 (.t 57), some (some 53, true)⟩, []),
        (⟨(some 59), .move (.t 0), some (some 53, true)⟩, []),
        (⟨(some 60), .move (.t 1), some (some 53, true)⟩, []),
        (⟨(some 61), .indexAddr 2 (.t 59) (.t 60), some (some 53, true)⟩, []),
        (⟨(some 62), .load true 2 (.t 61), some (some 53, true)⟩, []),
        (⟨(some 63), .callv (.t 54) [(.t 58), (.t 62)], some (some 53, true)⟩, []),
        (⟨(some 64), .bin .lss (.t 63) (.c (.int .i64 0)), some (some 53, true)⟩, []),
        (⟨(some 65), .un .not (.t 64), some (some 53, true)⟩, []),
        (⟨(some 66), .pick (.t 53) (.t 65) (.c (.bool false)), none⟩, [])])
      (.cond (.t 66)
        .skip
        (.exit 2)))
      (.block 3
        (.region [
          ⟨(some 67), .move (.t 13), none⟩,
          ⟨(some 68), .bin .sub (.t 67) (.c (.int .i64 1)), none⟩,
          ⟨(some 13), .move (.t 68), none⟩])))))
  (.seq
  (.seq
  (.region [
    ⟨(some 69), .move (.t 12), none⟩,
    ⟨(some 70), .move (.t 13), none⟩,
    ⟨(some 71), .bin .gtr (.t 69) (.t 70), none⟩])
  (.cond (.t 71)
    (.seq
    (.draw [
      (⟨(some 72), .move (.t 0), none⟩, []),
      (⟨(some 73), .move (.t 13), none⟩, []),
      (⟨(some 74), .move (.t 0), none⟩, []),
      (⟨(some 75), .move (.t 1), none⟩, []),
      (⟨(some 76), .move (.t 0), none⟩, []),
      (⟨(some 77), .move (.t 1), none⟩, []),
      (⟨(some 78), .indexAddr 2 (.t 76) (.t 77), none⟩, []),
      (⟨(some 79), .load true 2 (.t 78), none⟩, []),
      (⟨(some 80), .move (.t 0), none⟩, []),
      (⟨(some 81), .move (.t 13), none⟩, []),
      (⟨(some 82), .indexAddr 2 (.t 80) (.t 81), none⟩, []),
      (⟨(some 83), .load true 2 (.t 82), none⟩, []),
      (⟨(some 84), .indexAddr 2 (.t 72) (.t 73), none⟩, []),
      (⟨none, .store 2 (.t 84) (.t 79), none⟩, []),
      (⟨(some 85), .indexAddr 2 (.t 74) (.t 75), none⟩, []),
      (⟨none, .store 2 (.t 85) (.t 83), none⟩, [])])
    (.seq
    (.region [
      ⟨(some 86), .move (.t 13), none⟩,
      ⟨(some 10), .move (.t 86), none⟩,
      ⟨(some 11), .move (.c (.bool true)), none⟩])
    .ret))
    .skip))
  (.seq
  (.draw [
    (⟨(some 87), .move (.t 0), none⟩, []),
    (⟨(some 88), .move (.t 12), none⟩, []),
    (⟨(some 89), .move (.t 0), none⟩, []),
    (⟨(some 90), .move (.t 13), none⟩, []),
    (⟨(some 91), .move (.t 0), none⟩, []),
    (⟨(some 92), .move (.t 13), none⟩, []),
    (⟨(some 93), .indexAddr 2 (.t 91) (.t 92), none⟩, []),
    (⟨(some 94), .load true 2 (.t 93), none⟩, []),
    (⟨(some 95), .move (.t 0), none⟩, []),
    (⟨(some 96), .move (.t 12), none⟩, []),
    (⟨(some 97), .indexAddr 2 (.t 95) (.t 96), none⟩, []),
    (⟨(some 98), .load true 2 (.t 97), none⟩, []),
    (⟨(some 99), .indexAddr 2 (.t 87) (.t 88), none⟩, []),
    (⟨none, .store 2 (.t 99) (.t 94), none⟩, []),
    (⟨(some 100), .indexAddr 2 (.t 89) (.t 90), none⟩, []),
    (⟨none, .store 2 (.t 100) (.t 98), none⟩, [])])
  (.seq
  (.region [
    ⟨(some 101), .move (.t 12), none⟩,
    ⟨(some 102), .bin .add (.t 101) (.c (.int .i64 1)), none⟩,
    ⟨(some 12), .move (.t 102), none⟩])
  (.seq
  (.region [
    ⟨(some 103), .move (.t 13), none⟩,
    ⟨(some 104), .bin .sub (.t 103) (.c (.int .i64 1)), none⟩,
    ⟨(some 13), .move (.t 104), none⟩])
  (.seq
  (.block 4
    (.loop
      (.block 5
        (.seq
        (.block 6
          (.loop
            (.seq
            (.seq
            (.draw [
              (⟨(some 105), .move (.t 12), none⟩, []),
              (⟨(some 106), .move (.t 13), none⟩, []),
              (⟨(some 107), .bin .leq (.t 105) (.t 106), none⟩, []),
              (⟨(some 108), .move (.t 107), none⟩, []),
              (⟨(some 109), .move (.t 4), some (some 108, true)⟩, []),
              (⟨(some 110), .move (.t 0), some (some 108, true)⟩, []),
              (⟨(some 111), .move (.t 12), some (some 108, true)⟩, []),
              (⟨(some 112), .indexAddr 2 (.t 110) (.t 111), some (some 108, true)⟩, []),
              (⟨(some 113), .load true 2 (.t 112), some (some 108, true)⟩, []),
              (⟨(some 114), .move (.t 0), some (some 108, true)⟩, []),
              (⟨(some 115), .move (.t 1), some (some 108, true)⟩, []),
              (⟨(some 116), .indexAddr 2 (.t 114) (.t 115), some (some 108, true)⟩, []),
              (⟨(some 117), .load true 2 (.t 116), some (some 108, true)⟩, []),
              (⟨(some 118), .callv (.t 109) [(.t 113), (.t 117)], some (some 108, true)⟩, []),
              (⟨(some 119), .bin .lss (.t 118) (.c (.int .i64 0)), some (some 108, true)⟩, []),
              (⟨(some 120), .pick (.t 108) (.t 119) (.c (.bool false)), none⟩, [])])
            (.cond (.t 120)
              .skip
              (.exit 6)))
            (.block 7
              (.region [
                ⟨(some 121), .move (.t 12), none⟩,
                ⟨(some 122), .bin .add (.t 121) (.c (.int .i64 1)), none⟩,
                ⟨(some 12), .move (.t 122), none⟩])))))
        (.seq
        (.block 8
          (.loop
            (.seq
            (.seq
            (.draw [
              (⟨(some 123), .move (.t 12), none⟩, []),
              (⟨(some 124), .move (.t 13), none⟩, []),
              (⟨(some 125), .bin .leq (.t 123) (.t 124), none⟩, []),
              (⟨(some 126), .move (.t 125), none⟩, []),
              (⟨(some 127), .move (.t 4), some (some 126, true)⟩, []),
              (⟨(some 128), .move (.t 0), some (some 126, true)⟩, []),
              (⟨(some 129), .move (.t 13), some (some 126, true)⟩, []),
              (⟨(some 130), .indexAddr 2 (.t 128) (.t 129), some (some 126, true)⟩, []),
              (⟨(some 131), .load true 2 (.t 130), some (some 126, true)⟩, []),
              (⟨(some 132), .move (.t 0), some (some 126, true)⟩, []),
              (⟨(some 133), .move (.t 1), some (some 126, true)⟩, []),
              (⟨(some 134), .indexAddr 2 (.t 132) (.t 133), some (some 126, true)⟩, []),
              (⟨(some 135), .load true 2 (.t 134), some (some 126, true)⟩, []),
              (⟨(some 136), .callv (.t 127) [(.t 131), (.t 135)], some (some 126, true)⟩, []),
              (⟨(some 137), .bin .lss (.t 136) (.c (.int .i64 0)), some (some 126, true)⟩, []),
              (⟨(some 138), .un .not (.t 137), some (some 126, true)⟩, []),
              (⟨(some 139), .pick (.t 126) (.t 138) (.c (.bool false)), none⟩, [])])
            (.cond (.t 139)
              .skip
              (.exit 8)))
            (.block 9
              (.region [
                ⟨(some 140), .move (.t 13), none⟩,
                ⟨(some 141), .bin .sub (.t 140) (.c (.int .i64 1)), none⟩,
                ⟨(some 13), .move (.t 141), none⟩])))))
        (.seq
        (.seq
        (.region [
          ⟨(some 142), .move (.t 12), none⟩,
          ⟨(some 143), .move (.t 13), none⟩,
          ⟨(some 144), .bin .gtr (.t 142) (.t 143), none⟩])
        (.cond (.t 144)
          (.exit 4)
          .skip))
        (.seq
        (.draw [
          (⟨(some 145), .move (.t 0), none⟩, []),
          (⟨(some 146), .move (.t 12), none⟩, []),
          (⟨(some 147), .move (.t 0), none⟩, []),
          (⟨(some 148), .move (.t 13), none⟩, []),
          (⟨(some 149), .move (.t 0), none⟩, []),
          (⟨(some 150), .move (.t 13), none⟩, []),
          (⟨(some 151), .indexAddr 2 (.t 149) (.t 150), none⟩, []),
          (⟨(some 152), .load true 2 (.t 151), none⟩, []),
          (⟨(some 153), .move (.t 0), none⟩, []),
          (⟨(some 154), .move (.t 12), none⟩, []),
          (⟨(some 155), .indexAddr 2 (.t 153) (.t 154), none⟩, []),
          (⟨(some 156), .load true 2 (.t 155), none⟩, []),
          (⟨(some 157), .indexAddr 2 (.t 145) (.t 146), none⟩, []),
          (⟨none, .store 2 (.t 157) (.t 152), none⟩, []),
          (⟨(some 158), .indexAddr 2 (.t 147) (.t 148), none⟩, []),
          (⟨none, .store 2 (.t 158) (.t 156), none⟩, [])])
        (.seq
        (.region [
          ⟨(some 159), .move (.t 12), none⟩,
          ⟨(some 160), .bin .add (.t 159) (.c (.int .i64 1)), none⟩,
          ⟨(some 12), .move (.t 160), none⟩])
        (.region [
          ⟨(some 161), .move (.t 13), none⟩,
          ⟨(some 162), .bin .sub (.t 161) (.c (.int .i64 1)), none⟩,
          ⟨(some 13), .move (.t 162), none⟩])))))))))
  (.seq
  (.draw [
    (⟨(some 163), .move (.t 0), none⟩, []),
    (⟨(some 164), .move (.t 13), none⟩, []),
    (⟨(some 165), .move (.t 0), none⟩, []),
    (⟨(some 166), .move (.t 1), none⟩, []),
    (⟨(some 167), .move (.t 0), none⟩, []),
    (⟨(some 168), .move (.t 1), none⟩, []),
    (⟨(some 169), .indexAddr 2 (.t 167) (.t 168), none⟩, []),
    (⟨(some 170), .load true 2 (.t 169), none⟩, []),
    (⟨(some 171), .move (.t 0), none⟩, []),
    (⟨(some 172), .move (.t 13), none⟩, []),
    (⟨(some 173), .indexAddr 2 (.t 171) (.t 172), none⟩, []),
    (⟨(some 174), .load true 2 (.t 173), none⟩, []),
    (⟨(some 175), .indexAddr 2 (.t 163) (.t 164), none⟩, []),
    (⟨none, .store 2 (.t 175) (.t 170), none⟩, []),
    (⟨(some 176), .indexAddr 2 (.t 165) (.t 166), none⟩, []),
    (⟨none, .store 2 (.t 176) (.t 174), none⟩, [])])
  (.seq
  (.region [
    ⟨(some 177), .move (.t 13), none⟩,
    ⟨(some 10), .move (.t 177), none⟩,
    ⟨(some 11), .move (.c (.bool false)), none⟩])
  .ret))))))))))))⟩

structure F_slices_partitionCmpFunc_Entry (P : Program) where
  id : FuncId
  has : Has P id [] c_slices_partitionCmpFunc_Entry

def c_slices_pdqsortCmpFunc_Entry (f_slices_insertionSortCmpFunc_Entry : FuncId) (f_slices_heapSortCmpFunc_Entry : FuncId) (f_slices_breakPatternsCmpFunc_Entry : FuncId) (f_slices_choosePivotCmpFunc_Entry : FuncId) (f_slices_reverseRangeCmpFunc_Entry : FuncId) (f_slices_partialInsertionSortCmpFunc_Entry : FuncId) (f_slices_partitionEqualCmpFunc_Entry : FuncId) (f_slices_partitionCmpFunc_Entry : FuncId) (f_slices_pdqsortCmpFunc_Entry : FuncId) : AFunc := ⟨148, [],
  (.seq
  (.region [
    ⟨(some 10), .move (.c (.bool true)), none⟩])
  (.seq
  (.region [
    ⟨(some 11), .move (.c (.bool true)), none⟩])
  (.block 0
    (.loop
      (.block 1
        (.seq
        (.region [
          ⟨(some 21), .move (.t 2), none⟩,
          ⟨(some 22), .move (.t 1), none⟩,
          ⟨(some 23), .bin .sub (.t 21) (.t 22), none⟩,
          ⟨(some 12), .move (.t 23), none⟩])
        (.seq
        (.seq
        (.region [
          ⟨(some 24), .move (.t 12), none⟩,
          ⟨(some 25), .bin .leq (.t 24) (.c (.int .i64 12)), none⟩])
        (.cond (.t 25)
          (.seq
          (.region [
            ⟨(some 26), .move (.t 0), none⟩,
            ⟨(some 27), .move (.t 1), none⟩,
            ⟨(some 28), .move (.t 2), none⟩,
            ⟨(some 29), .move (.t 4), none⟩,
            ⟨(some 30), .call f_slices_insertionSortCmpFunc_Entry [(.t 26), (.t 27), (.t 28), (.t 29)], none⟩])
          .ret)
          .skip))
        (.seq
        (.seq
        (.region [
          ⟨(some 31), .move (.t 3), none⟩,
          ⟨(some 32), .bin .eql (.t 31) (.c (.int .i64 0)), none⟩])
        (.cond (.t 32)
          (.seq
          (.region [
            ⟨(some 33), .move (.t 0), none⟩,
            ⟨(some 34), .move (.t 1), none⟩,
            ⟨(some 35), .move (.t 2), none⟩,
            ⟨(some 36), .move (.t 4), none⟩,
            ⟨(some 37), .call f_slices_heapSortCmpFunc_Entry [(.t 33), (.t 34), (.t 35), (.t 36)], none⟩])
          .ret)
          .skip))
        (.seq
        (.seq
        (.region [
          ⟨(some 38), .move (.t 10), none⟩,
          ⟨(some 39), .un .not (.t 38), none⟩])
        (.cond (.t 39)
          (.seq
          (.region [
            ⟨(some 40), .move (.t 0), none⟩,
            ⟨(some 41), .move (.t 1), none⟩,
            ⟨(some 42), .move (.t 2), none⟩,
            ⟨(some 43), .move (.t 4), none⟩,
            ⟨(some 44), .call f_slices_breakPatternsCmpFunc_Entry [(.t 40), (.t 41), (.t 42), (.t 43)], none⟩])
          (.region [
            ⟨(some 45), .move (.t 3), none⟩,
            ⟨(some 46), .bin .sub (.t 45) (.c (.int .i64 1)), none⟩,
            ⟨(some 3), .move (.t 46), none⟩]))
          .skip))
        (.seq
        (.region [
          ⟨(some 48), .move (.t 0), none⟩,
          ⟨(some 49), .move (.t 1), none⟩,
          ⟨(some 50), .move (.t 2), none⟩,
          ⟨(some 51), .move (.t 4), none⟩,
          ⟨(some 52), .call f_slices_choosePivotCmpFunc_Entry [(.t 48), (.t 49), (.t 50), (.t 51)], none⟩,
          ⟨(some 47), .move (.t 52), none⟩,
          ⟨(some 53), .extract (.t 47) 0, none⟩,
          ⟨(some 54), .extract (.t 47) 1, none⟩,
          ⟨(some 13), .move (.t 53), none⟩,
          ⟨(some 14), .move (.t 54), none⟩])
        (.seq
        (.seq
        (.region [
          ⟨(some 55), .move (.t 14), none⟩,
          ⟨(some 56), .bin .eql (.t 55) (.c (.int .i64 2)), none⟩])
        (.cond (.t 56)
          (.seq
          (.region [
            ⟨(some 57), .move (.t 0), none⟩,
            ⟨(some 58), .move (.t 1), none⟩,
            ⟨(some 59), .move (.t 2), none⟩,
            ⟨(some 60), .move (.t 4), none⟩,
            ⟨(some 61), .call f_slices_reverseRangeCmpFunc_Entry [(.t 57), (.t 58), (.t 59), (.t 60)], none⟩])
          (.seq
          (.region [
            ⟨(some 62), .move (.t 2), none⟩,
            ⟨(some 63), .bin .sub (.t 62) (.c (.int .i64 1)), none⟩,
            ⟨(some 64), .move (.t 13), none⟩,
            ⟨(some 65), .move (.t 1), none⟩,
            ⟨(some 66), .bin .sub (.t 64) (.t 65), none⟩,
            ⟨(some 67), .bin .sub (.t 63) (.t 66), none⟩,
            ⟨(some 13), .move (.t 67), none⟩])
          (.region [
            ⟨(some 14), .move (.c (.int .i64 1)), none⟩])))
          .skip))
        (.seq
        (.seq
        (.region [
          ⟨(some 68), .move (.t 10), none⟩,
          ⟨(some 69), .move (.t 68), none⟩,
          ⟨(some 70), .move (.t 11), some (some 69, true)⟩,
          ⟨(some 71), .pick (.t 69) (.t 70) (.c (.bool false)), none⟩,
          ⟨(some 72), .move (.t 71), none⟩,
          ⟨(some 73), .move (.t 14), some (some 72, true)⟩,
          ⟨(some 74), .bin .eql (.t 73) (.c (.int .i64 1)), some (some 72, true)⟩,
          ⟨(some 75), .pick (.t 72) (.t 74) (.c (.bool false)), none⟩])
        (.cond (.t 75)
          (.seq
          (.region [
            ⟨(some 76), .move (.t 0), none⟩,
            ⟨(some 77), .move (.t 1), none⟩,
            ⟨(some 78), .move (.t 2), none⟩,
            ⟨(some 79), .move (.t 4), none⟩,
            ⟨(some 80), .call f_slices_partialInsertionSortCmpFunc_Entry [(.t 76), (.t 77), (.t 78), (.t 79)], none⟩])
          (.cond (.t 80)
            .ret
            .skip))
          .skip))
        (.seq
        (.seq
        (.draw [
          (⟨(some 81), .move (.t 1), none⟩, []),
          (⟨(some 82), .bin .gtr (.t 81) (.c (.int .i64 0)), none⟩, []),
          (⟨(some 83), .move (.t 82), none⟩, []),
          (⟨(some 84), .move (.t 4), some (some 83, true)⟩, []),
          (⟨(some 85), .move (.t 0), some (some 83, true)⟩, []),
          (⟨(some 86), .move (.t 1), some (some 83, true)⟩, []),
          (⟨(some 87), .bin .sub (.t 86) (.c (.int .i64 1)), some (some 83, true)⟩, []),
          (⟨(some 88), .indexAddr 2 (.t 85) (.t 87), some (some 83, true)⟩, []),
          (⟨(some 89), .load true 2 (.t 88), some (some 83, true)⟩, []),
          (⟨(some 90), .move (.t 0), some (some 83, true)⟩, []),
          (⟨(some 91), .move (.t 13), some (some 83, true)⟩, []),
          (⟨(some 92), .indexAddr 2 (.t 90) (.t 91), some (some 83, true)⟩, []),
          (⟨(some 93), .load true 2 (.t 92), some (some 83, true)⟩, []),
          (⟨(some 94), .callv (.t 84) [(.t 89), (.t 93)], some (some 83, true)⟩, []),
          (⟨(some 95), .bin .lss (.t 94) (.c (.int .i64 0)), some (some 83, true)⟩, []),
          (⟨(some 96), .un .not (.t 95), some (some 83, true)⟩, []),
          (⟨(some 97), .pick (.t 83) (.t 96) (.c (.bool false)), none⟩, [])])
        (.cond (.t 97)
          (.seq
          (.region [
            ⟨(some 98), .move (.t 0), none⟩,
            ⟨(some 99), .move (.t 1), none⟩,
            ⟨(some 100), .move (.t 2), none⟩,
            ⟨(some 101), .move (.t 13), none⟩,
            ⟨(some 102), .move (.t 4), none⟩,
            ⟨(some 103), .call f_slices_partitionEqualCmpFunc_Entry [(.t 98), (.t 99), (.t 100), (.t 101), (.t 102)], none⟩,
            ⟨(some 15), .move (.t 103), none⟩])
          (.seq
          (.region [
            ⟨(some 104), .move (.t 15), none⟩,
            ⟨(some 1), .move (.t 104), none⟩])
          (.exit 1)))
          .skip))
        (.seq
        (.region [
          ⟨(some 106), .move (.t 0), none⟩,
          ⟨(some 107), .move (.t 1), none⟩,
          ⟨(some 108), .move (.t 2), none⟩,
          ⟨(some 109), .move (.t 13), none⟩,
          ⟨(some 110), .move (.t 4), none⟩,
          ⟨(some 111), .call f_slices_partitionCmpFunc_Entry [(.t 106), (.t 107), (.t 108), (.t 109), (.t 110)], none⟩,
          ⟨(some 105), .move (.t 111), none⟩,
          ⟨(some 112), .extract (.t 105) 0, none⟩,
          ⟨(some 113), .extract (.t 105) 1, none⟩,
          ⟨(some 16), .move (.t 112), none⟩,
          ⟨(some 17), .move (.t 113), none⟩])
        (.seq
        (.region [
          ⟨(some 114), .move (.t 17), none⟩,
          ⟨(some 11), .move (.t 114), none⟩])
        (.seq
        (.region [
          ⟨(some 115), .move (.t 16), none⟩,
          ⟨(some 116), .move (.t 1), none⟩,
          ⟨(some 117), .bin .sub (.t 115) (.t 116), none⟩,
          ⟨(some 118), .move (.t 2), none⟩,
          ⟨(some 119), .move (.t 16), none⟩,
          ⟨(some 120), .bin .sub (.t 118) (.t 119), none⟩,
          ⟨(some 18), .move (.t 117), none⟩,
          ⟨(some 19), .move (.t 120), none⟩])
        (.seq
        (.region [
          ⟨(some 121), .move (.t 12), none⟩,
          ⟨(some 122), .bin .quo (.t 121) (.c (.int .i64 8)), none⟩,
          ⟨(some 20), .move (.t 122), none⟩])
        (.seq
        (.region [
          ⟨(some 123), .move (.t 18), none⟩,
          ⟨(some 124), .move (.t 19), none⟩,
          ⟨(some 125), .bin .lss (.t 123) (.t 124), none⟩])
        (.cond (.t 125)
          (.seq
          (.region [
            ⟨(some 126), .move (.t 18), none⟩,
            ⟨(some 127), .move (.t 20), none⟩,
            ⟨(some 128), .bin .geq (.t 126) (.t 127), none⟩,
            ⟨(some 10), .move (.t 128), none⟩])
          (.seq
          (.region [
            ⟨(some 129), .move (.t 0), none⟩,
            ⟨(some 130), .move (.t 1), none⟩,
            ⟨(some 131), .move (.t 16), none⟩,
            ⟨(some 132), .move (.t 3), none⟩,
            ⟨(some 133), .move (.t 4), none⟩,
            ⟨(some 134), .call f_slices_pdqsortCmpFunc_Entry [(.t 129), (.t 130), (.t 131), (.t 132), (.t 133)], none⟩])
          (.region [
            ⟨(some 135), .move (.t 16), none⟩,
            ⟨(some 136), .bin .add (.t 135) (.c (.int .i64 1)), none⟩,
            ⟨(some 1), .move (.t 136), none⟩])))
          (.seq
          (.region [
            ⟨(some 137), .move (.t 19), none⟩,
            ⟨(some 138), .move (.t 20), none⟩,
            ⟨(some 139), .bin .geq (.t 137) (.t 138), none⟩,
            ⟨(some 10), .move (.t 139), none⟩])
          (.seq
          (.region [
            ⟨(some 140), .move (.t 0), none⟩,
            ⟨(some 141), .move (.t 16), none⟩,
            ⟨(some 142), .bin .add (.t 141) (.c (.int .i64 1)), none⟩,
            ⟨(some 143), .move (.t 2), none⟩,
            ⟨(some 144), .move (.t 3), none⟩,
            ⟨(some 145), .move (.t 4), none⟩,
            ⟨(some 146), .call f_slices_pdqsortCmpFunc_Entry [(.t 140), (.t 142), (.t 143), (.t 144), (.t 145)], none⟩])
          (.region [
            ⟨(some 147), .move (.t 16), none⟩,
            ⟨(some 2), .move (.t 147), none⟩]))))))))))))))))))))))⟩

structure F_slices_pdqsortCmpFunc_Entry (P : Program) where
  id : FuncId
  slices_insertionSortCmpFunc_Entry : F_slices_insertionSortCmpFunc_Entry P
  slices_heapSortCmpFunc_Entry : F_slices_heapSortCmpFunc_Entry P
  slices_breakPatternsCmpFunc_Entry : F_slices_breakPatternsCmpFunc_Entry P
  slices_choosePivotCmpFunc_Entry : F_slices_choosePivotCmpFunc_Entry P
  slices_reverseRangeCmpFunc_Entry : F_slices_reverseRangeCmpFunc_Entry P
  slices_partialInsertionSortCmpFunc_Entry : F_slices_partialInsertionSortCmpFunc_Entry P
  slices_partitionEqualCmpFunc_Entry : F_slices_partitionEqualCmpFunc_Entry P
  slices_partitionCmpFunc_Entry : F_slices_partitionCmpFunc_Entry P
  has : Has P id [] (c_slices_pdqsortCmpFunc_Entry slices_insertionSortCmpFunc_Entry.id slices_heapSortCmpFunc_Entry.id slices_breakPatternsCmpFunc_Entry.id slices_choosePivotCmpFunc_Entry.id slices_reverseRangeCmpFunc_Entry.id slices_partialInsertionSortCmpFunc_Entry.id slices_partitionEqualCmpFunc_Entry.id slices_partitionCmpFunc_Entry.id id)

def c_slices_SortFunc_LEntry_Entry (f_math_bits_Len : FuncId) (f_slices_pdqsortCmpFunc_Entry : FuncId) : AFunc := ⟨14, [],
  (.seq
  (.region [
    ⟨(some 5), .move (.t 0), none⟩,
    ⟨(some 6), .len (.t 5), none⟩,
    ⟨(some 4), .move (.t 6), none⟩])
  (.region [
    ⟨(some 7), .move (.t 0), none⟩,
    ⟨(some 8), .move (.t 4), none⟩,
    ⟨(some 9), .move (.t 4), none⟩,
    ⟨(some 10), .conv .u64 (.t 9), none⟩,
    ⟨(some 11), .call f_math_bits_Len [(.t 10)], none⟩,
    ⟨(some 12), .move (.t 1), none⟩,
    ⟨(some 13), .call f_slices_pdqsortCmpFunc_Entry [(.t 7), (.c (.int .i64 0)), (.t 8), (.t 11), (.t 12)], none⟩]))⟩

structure F_slices_SortFunc_LEntry_Entry (P : Program) where
  id : FuncId
  math_bits_Len : F_math_bits_Len P
  slices_pdqsortCmpFunc_Entry : F_slices_pdqsortCmpFunc_Entry P
  has : Has P id [] (c_slices_SortFunc_LEntry_Entry math_bits_Len.id slices_pdqsortCmpFunc_Entry.id)

def c_bag_sum_1 (f_value_CompareRows : FuncId) : AFunc := ⟨10, [.tmp 4],
  (.seq
  (.region [
    ⟨(some 2), .box (.t 0), none⟩,
    ⟨(some 3), .box (.t 1), none⟩,
    ⟨(some 4), .move (.c (.int .i64 0)), none⟩])
  (.seq
  (.region [
    ⟨(some 5), .fieldAddr 0 (.t 2), none⟩,
    ⟨(some 6), .load false 1 (.t 5), none⟩,
    ⟨(some 7), .fieldAddr 0 (.t 3), none⟩,
    ⟨(some 8), .load false 1 (.t 7), none⟩,
    ⟨(some 9), .call f_value_CompareRows [(.t 6), (.t 8)], none⟩,
    ⟨(some 4), .move (.t 9), none⟩])
  .ret))⟩

structure F_bag_sum_1 (P : Program) where
  id : FuncId
  value_CompareRows : F_value_CompareRows P
  has : Has P id [] (c_bag_sum_1 value_CompareRows.id)

def c_bag_sum (f_slices_Clone_LEntry_Entry : FuncId) (f_slices_SortFunc_LEntry_Entry : FuncId) (f_bag_sum_1 : FuncId) (f_value_CompareRows : FuncId) (f_bag_put : FuncId) (f_bag_done : FuncId) : AFunc := ⟨66, [.tmp 2, .tmp 3],
  (.seq
  (.region [
    ⟨(some 2), .move (.c .nil), none⟩,
    ⟨(some 3), .move (.c (.int .i64 0)), none⟩])
  (.seq
  (.region [
    ⟨(some 9), .move (.t 0), none⟩,
    ⟨(some 10), .call f_slices_Clone_LEntry_Entry [(.t 9)], none⟩,
    ⟨(some 0), .move (.t 10), none⟩])
  (.seq
  (.region [
    ⟨(some 11), .move (.t 0), none⟩,
    ⟨(some 12), .call f_slices_SortFunc_LEntry_Entry [(.t 11), (.c (.fn f_bag_sum_1 []))], none⟩])
  (.seq
  (.region [
    ⟨(some 4), .move (.c .nil), none⟩])
  (.seq
  (.region [
    ⟨(some 5), .move (.c (.bool true)), none⟩])
  (.seq
  (.seq
  (.region [
    ⟨(some 6), .move (.c (.int .i64 0)), none⟩])
  (.block 0
    (.loop
      (.seq
      (.seq
      (.region [
        ⟨(some 13), .move (.t 6), none⟩,
        ⟨(some 14), .move (.t 0), none⟩,
        ⟨(some 15), .len (.t 14), none⟩,
        ⟨(some 16), .bin .lss (.t 13) (.t 15), none⟩,
        ⟨(some 17), .move (.t 16), none⟩,
        ⟨(some 18), .move (.t 5), some (some 17, true)⟩,
        ⟨(some 19), .pick (.t 17) (.t 18) (.c (.bool false)), none⟩])
      (.cond (.t 19)
        .skip
        (.exit 0)))
      (.block 1
        (.seq
        (.region [
          ⟨(some 20), .move (.t 6), none⟩,
          ⟨(some 7), .move (.c (.int .i64 0)), none⟩,
          ⟨(some 8), .move (.t 20), none⟩])
        (.seq
        (.block 2
          (.loop
            (.seq
            (.seq
            (.draw [
              (⟨(some 21), .move (.t 8), none⟩, []),
              (⟨(some 22), .move (.t 0), none⟩, []),
              (⟨(some 23), .len (.t 22), none⟩, []),
              (⟨(some 24), .bin .lss (.t 21) (.t 23), none⟩, []),
              (⟨(some 25), .move (.t 24), none⟩, []),
              (⟨(some 26), .move (.t 0), some (some 25, true)⟩, []),
              (⟨(some 27), .move (.t 6), some (some 25, true)⟩, []),
              (⟨(some 28), .indexAddr 2 (.t 26) (.t 27), some (some 25, true)⟩, []),
              (⟨(some 29), .fieldAddr 0 (.t 28), some (some 25, true)⟩, []),
              (⟨(some 30), .load false 1 (.t 29), some (some 25, true)⟩, []),
              (⟨(some 31), .move (.t 0), some (some 25, true)⟩, []),
              (⟨(some 32), .move (.t 8), some (some 25, true)⟩, []),
              (⟨(some 33), .indexAddr 2 (.t 31) (.t 32), some (some 25, true)⟩, []),
              (⟨(some 34), .fieldAddr 0 (.t 33), some (some 25, true)⟩, []),
              (⟨(some 35), .load false 1 (.t 34), some (some 25, true)⟩, []),
              (⟨(some 36), .call f_value_CompareRows [(.t 30), (.t 35)], some (some 25, true)⟩, []),
              (⟨(some 37), .bin .eql (.t 36) (.c (.int .i64 0)), some (some 25, true)⟩, []),
              (⟨(some 38), .pick (.t 25) (.t 37) (.c (.bool false)), none⟩, [])])
            (.cond (.t 38)
              .skip
              (.exit 2)))
            (.seq
            (.block 3
              (.region [
                ⟨(some 41), .move (.t 7), none⟩,
                ⟨(some 42), .move (.t 0), none⟩,
                ⟨(some 43), .move (.t 8), none⟩,
                ⟨(some 44), .indexAddr 2 (.t 42) (.t 43), none⟩,
                ⟨(some 45), .fieldAddr 1 (.t 44), none⟩,
                ⟨(some 46), .load false 1 (.t 45), none⟩,
                ⟨(some 47), .bin .add (.t 41) (.t 46), none⟩,
                ⟨(some 7), .move (.t 47), none⟩]))
            (.region [
              ⟨(some 39), .move (.t 8), none⟩,
              ⟨(some 40), .bin .add (.t 39) (.c (.int .i64 1)), none⟩,
              ⟨(some 8), .move (.t 40), none⟩])))))
        (.seq
        (.region [
          ⟨(some 49), .move (.t 4), none⟩,
          ⟨(some 50), .move (.t 0), none⟩,
          ⟨(some 51), .move (.t 6), none⟩,
          ⟨(some 52), .indexAddr 2 (.t 50) (.t 51), none⟩,
          ⟨(some 53), .fieldAddr 0 (.t 52), none⟩,
          ⟨(some 54), .load false 1 (.t 53), none⟩,
          ⟨(some 55), .move (.t 7), none⟩,
          ⟨(some 56), .call f_bag_put [(.t 49), (.t 54), (.t 55)], none⟩,
          ⟨(some 48), .move (.t 56), none⟩,
          ⟨(some 57), .extract (.t 48) 0, none⟩,
          ⟨(some 58), .extract (.t 48) 1, none⟩,
          ⟨(some 4), .move (.t 57), none⟩,
          ⟨(some 5), .move (.t 58), none⟩])
        (.region [
          ⟨(some 59), .move (.t 8), none⟩,
          ⟨(some 6), .move (.t 59), none⟩])))))))))
  (.seq
  (.seq
  (.region [
    ⟨(some 60), .move (.t 5), none⟩,
    ⟨(some 61), .un .not (.t 60), none⟩])
  (.cond (.t 61)
    (.seq
    (.region [
      ⟨(some 2), .move (.c .nil), none⟩,
      ⟨(some 3), .move (.c (.int .i64 2)), none⟩])
    .ret)
    .skip))
  (.seq
  (.region [
    ⟨(some 62), .move (.t 4), none⟩,
    ⟨(some 63), .call f_bag_done [(.t 62)], none⟩,
    ⟨(some 64), .extract (.t 63) 0, none⟩,
    ⟨(some 65), .extract (.t 63) 1, none⟩,
    ⟨(some 2), .move (.t 64), none⟩,
    ⟨(some 3), .move (.t 65), none⟩])
  .ret))))))))⟩

structure F_bag_sum (P : Program) where
  id : FuncId
  slices_Clone_LEntry_Entry : F_slices_Clone_LEntry_Entry P
  slices_SortFunc_LEntry_Entry : F_slices_SortFunc_LEntry_Entry P
  bag_sum_1 : F_bag_sum_1 P
  value_CompareRows : F_value_CompareRows P
  bag_put : F_bag_put P
  bag_done : F_bag_done P
  has : Has P id [] (c_bag_sum slices_Clone_LEntry_Entry.id slices_SortFunc_LEntry_Entry.id bag_sum_1.id value_CompareRows.id bag_put.id bag_done.id)

def c_bag_Normalize (f_bag_formed : FuncId) (f_bag_sum : FuncId) : AFunc := ⟨23, [.tmp 2, .tmp 3],
  (.seq
  (.region [
    ⟨(some 2), .move (.c .nil), none⟩,
    ⟨(some 3), .move (.c (.int .i64 0)), none⟩])
  (.seq
  (.seq
  (.region [
    ⟨(some 7), .move (.t 0), none⟩,
    ⟨(some 8), .len (.t 7), none⟩,
    ⟨(some 9), .move (.c (.int .i64 0)), none⟩])
  (.block 0
    (.loop
      (.seq
      (.region [
        ⟨(some 10), .bin .lss (.t 9) (.t 8), none⟩])
      (.seq
      (.cond (.t 10)
        .skip
        (.exit 0))
      (.seq
      (.block 1
        (.seq
        (.region [
          ⟨(some 11), .indexAddr 2 (.t 7) (.t 9), none⟩,
          ⟨(some 12), .load true 2 (.t 11), none⟩,
          ⟨(some 5), .alloc [.nil, (.int .i64 0)], none⟩,
          ⟨none, .store 2 (.t 5) (.t 12), none⟩])
        (.seq
        (.region [
          ⟨(some 13), .load true 2 (.t 5), none⟩,
          ⟨(some 14), .call f_bag_formed [(.t 13)], none⟩,
          ⟨(some 6), .move (.t 14), none⟩])
        (.seq
        (.region [
          ⟨(some 15), .move (.t 6), none⟩,
          ⟨(some 16), .bin .neq (.t 15) (.c (.int .i64 0)), none⟩])
        (.cond (.t 16)
          (.seq
          (.region [
            ⟨(some 17), .move (.t 6), none⟩,
            ⟨(some 2), .move (.c .nil), none⟩,
            ⟨(some 3), .move (.t 17), none⟩])
          .ret)
          .skip)))))
      (.region [
        ⟨(some 18), .bin .add (.t 9) (.c (.int .i64 1)), none⟩,
        ⟨(some 9), .move (.t 18), none⟩])))))))
  (.seq
  (.region [
    ⟨(some 19), .move (.t 0), none⟩,
    ⟨(some 20), .call f_bag_sum [(.t 19)], none⟩,
    ⟨(some 21), .extract (.t 20) 0, none⟩,
    ⟨(some 22), .extract (.t 20) 1, none⟩,
    ⟨(some 2), .move (.t 21), none⟩,
    ⟨(some 3), .move (.t 22), none⟩])
  .ret)))⟩

structure F_bag_Normalize (P : Program) where
  id : FuncId
  bag_formed : F_bag_formed P
  bag_sum : F_bag_sum P
  has : Has P id [] (c_bag_Normalize bag_formed.id bag_sum.id)

def c_bag_IsTable_1 : AFunc := ⟨6, [.tmp 2],
  (.seq
  (.region [
    ⟨(some 1), .box (.t 0), none⟩,
    ⟨(some 2), .move (.c (.bool false)), none⟩])
  (.seq
  (.region [
    ⟨(some 3), .fieldAddr 1 (.t 1), none⟩,
    ⟨(some 4), .load false 1 (.t 3), none⟩,
    ⟨(some 5), .bin .lss (.t 4) (.c (.int .i64 0)), none⟩,
    ⟨(some 2), .move (.t 5), none⟩])
  .ret))⟩

structure F_bag_IsTable_1 (P : Program) where
  id : FuncId
  has : Has P id [] c_bag_IsTable_1

def c_bag_IsTable (f_bag_Validate : FuncId) (f_slices_ContainsFunc_LEntry_Entry : FuncId) (f_bag_IsTable_1 : FuncId) : AFunc := ⟨11, [.tmp 2],
  (.seq
  (.region [
    ⟨(some 2), .move (.c (.bool false)), none⟩])
  (.seq
  (.region [
    ⟨(some 3), .move (.t 0), none⟩,
    ⟨(some 4), .call f_bag_Validate [(.t 3)], none⟩,
    ⟨(some 5), .bin .eql (.t 4) (.c (.int .i64 0)), none⟩,
    ⟨(some 6), .move (.t 5), none⟩,
    ⟨(some 7), .move (.t 0), some (some 6, true)⟩,
    ⟨(some 8), .call f_slices_ContainsFunc_LEntry_Entry [(.t 7), (.c (.fn f_bag_IsTable_1 []))], some (some 6, true)⟩,
    ⟨(some 9), .un .not (.t 8), some (some 6, true)⟩,
    ⟨(some 10), .pick (.t 6) (.t 9) (.c (.bool false)), none⟩,
    ⟨(some 2), .move (.t 10), none⟩])
  .ret))⟩

structure F_bag_IsTable (P : Program) where
  id : FuncId
  bag_Validate : F_bag_Validate P
  slices_ContainsFunc_LEntry_Entry : F_slices_ContainsFunc_LEntry_Entry P
  bag_IsTable_1 : F_bag_IsTable_1 P
  has : Has P id [] (c_bag_IsTable bag_Validate.id slices_ContainsFunc_LEntry_Entry.id bag_IsTable_1.id)

def c_warehouseref6_sorted (f_warehouseref6_sorted : FuncId) (f_warehouseref6_merge : FuncId) : AFunc := ⟨21, [.tmp 2],
  (.seq
  (.region [
    ⟨(some 2), .move (.c .nil), none⟩])
  (.seq
  (.seq
  (.region [
    ⟨(some 3), .move (.t 0), none⟩,
    ⟨(some 4), .len (.t 3), none⟩,
    ⟨(some 5), .bin .lss (.t 4) (.c (.int .i64 2)), none⟩])
  (.cond (.t 5)
    (.seq
    (.region [
      ⟨(some 6), .move (.t 0), none⟩,
      ⟨(some 7), .append 2 32 [.nil, (.int .i64 0)] (.c .nil) (.t 6), none⟩,
      ⟨(some 2), .move (.t 7), none⟩])
    .ret)
    .skip))
  (.seq
  (.draw [
    (⟨(some 8), .move (.t 0), none⟩, []),
    (⟨(some 9), .move (.t 0), none⟩, []),
    (⟨(some 10), .len (.t 9), none⟩, []),
    (⟨(some 11), .bin .quo (.t 10) (.c (.int .i64 2)), none⟩, []),
    (⟨(some 12), .slice 2 (.t 8) none (some (.t 11)), none⟩, []),
    (⟨(some 13), .call f_warehouseref6_sorted [(.t 12)], none⟩, []),
    (⟨(some 14), .move (.t 0), none⟩, []),
    (⟨(some 15), .move (.t 0), none⟩, []),
    (⟨(some 16), .len (.t 15), none⟩, []),
    (⟨(some 17), .bin .quo (.t 16) (.c (.int .i64 2)), none⟩, []),
    (⟨(some 18), .slice 2 (.t 14) (some (.t 17)) none, none⟩, []),
    (⟨(some 19), .call f_warehouseref6_sorted [(.t 18)], none⟩, []),
    (⟨(some 20), .call f_warehouseref6_merge [(.t 13), (.t 19)], none⟩, []),
    (⟨(some 2), .move (.t 20), none⟩, [])])
  .ret)))⟩

structure F_warehouseref6_sorted (P : Program) where
  id : FuncId
  warehouseref6_merge : F_warehouseref6_merge P
  has : Has P id [] (c_warehouseref6_sorted id warehouseref6_merge.id)

def c_warehouseref6_Sum (f_warehouseref6_sorted : FuncId) (f_warehouseref6_result : FuncId) : AFunc := ⟨9, [.tmp 2, .tmp 3],
  (.seq
  (.region [
    ⟨(some 2), .move (.c .nil), none⟩,
    ⟨(some 3), .move (.c (.int .i64 0)), none⟩])
  (.seq
  (.region [
    ⟨(some 4), .move (.t 0), none⟩,
    ⟨(some 5), .call f_warehouseref6_sorted [(.t 4)], none⟩,
    ⟨(some 6), .call f_warehouseref6_result [(.t 5)], none⟩,
    ⟨(some 7), .extract (.t 6) 0, none⟩,
    ⟨(some 8), .extract (.t 6) 1, none⟩,
    ⟨(some 2), .move (.t 7), none⟩,
    ⟨(some 3), .move (.t 8), none⟩])
  .ret))⟩

structure F_warehouseref6_Sum (P : Program) where
  id : FuncId
  warehouseref6_sorted : F_warehouseref6_sorted P
  warehouseref6_result : F_warehouseref6_result P
  has : Has P id [] (c_warehouseref6_Sum warehouseref6_sorted.id warehouseref6_result.id)

def c_warehouseref6_Normalize (f_warehouseref6_fits : FuncId) (f_warehouseref6_Sum : FuncId) : AFunc := ⟨24, [.tmp 2, .tmp 3],
  (.seq
  (.region [
    ⟨(some 2), .move (.c .nil), none⟩,
    ⟨(some 3), .move (.c (.int .i64 0)), none⟩])
  (.seq
  (.seq
  (.region [
    ⟨(some 4), .move (.c (.int .i64 0)), none⟩])
  (.block 0
    (.loop
      (.seq
      (.seq
      (.region [
        ⟨(some 6), .move (.t 4), none⟩,
        ⟨(some 7), .move (.t 0), none⟩,
        ⟨(some 8), .len (.t 7), none⟩,
        ⟨(some 9), .bin .lss (.t 6) (.t 8), none⟩])
      (.cond (.t 9)
        .skip
        (.exit 0)))
      (.seq
      (.block 1
        (.seq
        (.region [
          ⟨(some 12), .move (.t 0), none⟩,
          ⟨(some 13), .move (.t 4), none⟩,
          ⟨(some 14), .indexAddr 2 (.t 12) (.t 13), none⟩,
          ⟨(some 15), .load true 2 (.t 14), none⟩,
          ⟨(some 16), .call f_warehouseref6_fits [(.t 15)], none⟩,
          ⟨(some 5), .move (.t 16), none⟩])
        (.seq
        (.region [
          ⟨(some 17), .move (.t 5), none⟩,
          ⟨(some 18), .bin .neq (.t 17) (.c (.int .i64 0)), none⟩])
        (.cond (.t 18)
          (.seq
          (.region [
            ⟨(some 19), .move (.t 5), none⟩,
            ⟨(some 2), .move (.c .nil), none⟩,
            ⟨(some 3), .move (.t 19), none⟩])
          .ret)
          .skip))))
      (.region [
        ⟨(some 10), .move (.t 4), none⟩,
        ⟨(some 11), .bin .add (.t 10) (.c (.int .i64 1)), none⟩,
        ⟨(some 4), .move (.t 11), none⟩]))))))
  (.seq
  (.region [
    ⟨(some 20), .move (.t 0), none⟩,
    ⟨(some 21), .call f_warehouseref6_Sum [(.t 20)], none⟩,
    ⟨(some 22), .extract (.t 21) 0, none⟩,
    ⟨(some 23), .extract (.t 21) 1, none⟩,
    ⟨(some 2), .move (.t 22), none⟩,
    ⟨(some 3), .move (.t 23), none⟩])
  .ret)))⟩

structure F_warehouseref6_Normalize (P : Program) where
  id : FuncId
  warehouseref6_fits : F_warehouseref6_fits P
  warehouseref6_Sum : F_warehouseref6_Sum P
  has : Has P id [] (c_warehouseref6_Normalize warehouseref6_fits.id warehouseref6_Sum.id)

def c_bag_Size (f_bag_Validate : FuncId) : AFunc := ⟨25, [.tmp 2, .tmp 3],
  (.seq
  (.region [
    ⟨(some 2), .move (.c (.int .i64 0)), none⟩,
    ⟨(some 3), .move (.c (.int .i64 0)), none⟩])
  (.seq
  (.seq
  (.region [
    ⟨(some 8), .move (.t 0), none⟩,
    ⟨(some 9), .call f_bag_Validate [(.t 8)], none⟩,
    ⟨(some 4), .move (.t 9), none⟩])
  (.seq
  (.region [
    ⟨(some 10), .move (.t 4), none⟩,
    ⟨(some 11), .bin .neq (.t 10) (.c (.int .i64 0)), none⟩])
  (.cond (.t 11)
    (.seq
    (.region [
      ⟨(some 12), .move (.t 4), none⟩,
      ⟨(some 2), .move (.c (.int .i64 0)), none⟩,
      ⟨(some 3), .move (.t 12), none⟩])
    .ret)
    .skip)))
  (.seq
  (.region [
    ⟨(some 5), .move (.c (.int .i64 0)), none⟩])
  (.seq
  (.seq
  (.region [
    ⟨(some 13), .move (.t 0), none⟩,
    ⟨(some 14), .len (.t 13), none⟩,
    ⟨(some 15), .move (.c (.int .i64 0)), none⟩])
  (.block 0
    (.loop
      (.seq
      (.region [
        ⟨(some 16), .bin .lss (.t 15) (.t 14), none⟩])
      (.seq
      (.cond (.t 16)
        .skip
        (.exit 0))
      (.seq
      (.block 1
        (.seq
        (.region [
          ⟨(some 17), .indexAddr 2 (.t 13) (.t 15), none⟩,
          ⟨(some 18), .load true 2 (.t 17), none⟩,
          ⟨(some 7), .alloc [.nil, (.int .i64 0)], none⟩,
          ⟨none, .store 2 (.t 7) (.t 18), none⟩])
        (.region [
          ⟨(some 19), .move (.t 5), none⟩,
          ⟨(some 20), .fieldAddr 1 (.t 7), none⟩,
          ⟨(some 21), .load false 1 (.t 20), none⟩,
          ⟨(some 22), .bin .add (.t 19) (.t 21), none⟩,
          ⟨(some 5), .move (.t 22), none⟩])))
      (.region [
        ⟨(some 23), .bin .add (.t 15) (.c (.int .i64 1)), none⟩,
        ⟨(some 15), .move (.t 23), none⟩])))))))
  (.seq
  (.region [
    ⟨(some 24), .move (.t 5), none⟩,
    ⟨(some 2), .move (.t 24), none⟩,
    ⟨(some 3), .move (.c (.int .i64 0)), none⟩])
  .ret)))))⟩

structure F_bag_Size (P : Program) where
  id : FuncId
  bag_Validate : F_bag_Validate P
  has : Has P id [] (c_bag_Size bag_Validate.id)

def c_warehouseref6_Size (f_warehouseref6_Validate : FuncId) : AFunc := ⟨26, [.tmp 2, .tmp 3],
  (.seq
  (.region [
    ⟨(some 2), .move (.c (.int .i64 0)), none⟩,
    ⟨(some 3), .move (.c (.int .i64 0)), none⟩])
  (.seq
  (.seq
  (.region [
    ⟨(some 7), .move (.t 0), none⟩,
    ⟨(some 8), .call f_warehouseref6_Validate [(.t 7)], none⟩,
    ⟨(some 4), .move (.t 8), none⟩])
  (.seq
  (.region [
    ⟨(some 9), .move (.t 4), none⟩,
    ⟨(some 10), .bin .neq (.t 9) (.c (.int .i64 0)), none⟩])
  (.cond (.t 10)
    (.seq
    (.region [
      ⟨(some 11), .move (.t 4), none⟩,
      ⟨(some 2), .move (.c (.int .i64 0)), none⟩,
      ⟨(some 3), .move (.t 11), none⟩])
    .ret)
    .skip)))
  (.seq
  (.region [
    ⟨(some 5), .move (.c (.int .i64 0)), none⟩])
  (.seq
  (.seq
  (.region [
    ⟨(some 6), .move (.c (.int .i64 0)), none⟩])
  (.block 0
    (.loop
      (.seq
      (.seq
      (.region [
        ⟨(some 12), .move (.t 6), none⟩,
        ⟨(some 13), .move (.t 0), none⟩,
        ⟨(some 14), .len (.t 13), none⟩,
        ⟨(some 15), .bin .lss (.t 12) (.t 14), none⟩])
      (.cond (.t 15)
        .skip
        (.exit 0)))
      (.seq
      (.block 1
        (.region [
          ⟨(some 18), .move (.t 5), none⟩,
          ⟨(some 19), .move (.t 0), none⟩,
          ⟨(some 20), .move (.t 6), none⟩,
          ⟨(some 21), .indexAddr 2 (.t 19) (.t 20), none⟩,
          ⟨(some 22), .fieldAddr 1 (.t 21), none⟩,
          ⟨(some 23), .load false 1 (.t 22), none⟩,
          ⟨(some 24), .bin .add (.t 18) (.t 23), none⟩,
          ⟨(some 5), .move (.t 24), none⟩]))
      (.region [
        ⟨(some 16), .move (.t 6), none⟩,
        ⟨(some 17), .bin .add (.t 16) (.c (.int .i64 1)), none⟩,
        ⟨(some 6), .move (.t 17), none⟩]))))))
  (.seq
  (.region [
    ⟨(some 25), .move (.t 5), none⟩,
    ⟨(some 2), .move (.t 25), none⟩,
    ⟨(some 3), .move (.c (.int .i64 0)), none⟩])
  .ret)))))⟩

structure F_warehouseref6_Size (P : Program) where
  id : FuncId
  warehouseref6_Validate : F_warehouseref6_Validate P
  has : Has P id [] (c_warehouseref6_Size warehouseref6_Validate.id)

def c_warehouseref6_positive : AFunc := ⟨16, [.tmp 2],
  (.seq
  (.region [
    ⟨(some 2), .move (.c (.bool false)), none⟩])
  (.seq
  (.seq
  (.region [
    ⟨(some 3), .move (.c (.int .i64 0)), none⟩])
  (.block 0
    (.loop
      (.seq
      (.seq
      (.region [
        ⟨(some 4), .move (.t 3), none⟩,
        ⟨(some 5), .move (.t 0), none⟩,
        ⟨(some 6), .len (.t 5), none⟩,
        ⟨(some 7), .bin .lss (.t 4) (.t 6), none⟩])
      (.cond (.t 7)
        .skip
        (.exit 0)))
      (.seq
      (.block 1
        (.seq
        (.region [
          ⟨(some 10), .move (.t 0), none⟩,
          ⟨(some 11), .move (.t 3), none⟩,
          ⟨(some 12), .indexAddr 2 (.t 10) (.t 11), none⟩,
          ⟨(some 13), .fieldAddr 1 (.t 12), none⟩,
          ⟨(some 14), .load false 1 (.t 13), none⟩,
          ⟨(some 15), .bin .leq (.t 14) (.c (.int .i64 0)), none⟩])
        (.cond (.t 15)
          (.seq
          (.region [
            ⟨(some 2), .move (.c (.bool false)), none⟩])
          .ret)
          .skip)))
      (.region [
        ⟨(some 8), .move (.t 3), none⟩,
        ⟨(some 9), .bin .add (.t 8) (.c (.int .i64 1)), none⟩,
        ⟨(some 3), .move (.t 9), none⟩]))))))
  (.seq
  (.region [
    ⟨(some 2), .move (.c (.bool true)), none⟩])
  .ret)))⟩

structure F_warehouseref6_positive (P : Program) where
  id : FuncId
  has : Has P id [] c_warehouseref6_positive

def c_bag_Expand (f_bag_Size : FuncId) (f_bag_IsTable : FuncId) (f_slices_Clone_LValue_Value : FuncId) : AFunc := ⟨41, [.tmp 2, .tmp 3],
  (.seq
  (.region [
    ⟨(some 2), .move (.c .nil), none⟩,
    ⟨(some 3), .move (.c (.int .i64 0)), none⟩])
  (.seq
  (.region [
    ⟨(some 10), .move (.t 0), none⟩,
    ⟨(some 11), .call f_bag_Size [(.t 10)], none⟩,
    ⟨(some 9), .move (.t 11), none⟩,
    ⟨(some 12), .extract (.t 9) 0, none⟩,
    ⟨(some 13), .extract (.t 9) 1, none⟩,
    ⟨(some 4), .move (.t 12), none⟩,
    ⟨(some 5), .move (.t 13), none⟩])
  (.seq
  (.seq
  (.region [
    ⟨(some 14), .move (.t 5), none⟩,
    ⟨(some 15), .bin .neq (.t 14) (.c (.int .i64 0)), none⟩])
  (.cond (.t 15)
    (.seq
    (.region [
      ⟨(some 16), .move (.t 5), none⟩,
      ⟨(some 2), .move (.c .nil), none⟩,
      ⟨(some 3), .move (.t 16), none⟩])
    .ret)
    .skip))
  (.seq
  (.seq
  (.region [
    ⟨(some 17), .move (.t 0), none⟩,
    ⟨(some 18), .call f_bag_IsTable [(.t 17)], none⟩,
    ⟨(some 19), .un .not (.t 18), none⟩])
  (.cond (.t 19)
    (.seq
    (.region [
      ⟨(some 2), .move (.c .nil), none⟩,
      ⟨(some 3), .move (.c (.int .i64 8)), none⟩])
    .ret)
    .skip))
  (.seq
  (.seq
  (.region [
    ⟨(some 20), .move (.t 4), none⟩,
    ⟨(some 21), .bin .gtr (.t 20) (.c (.int .i64 4096)), none⟩])
  (.cond (.t 21)
    (.seq
    (.region [
      ⟨(some 2), .move (.c .nil), none⟩,
      ⟨(some 3), .move (.c (.int .i64 2)), none⟩])
    .ret)
    .skip))
  (.seq
  (.region [
    ⟨(some 6), .move (.c .nil), none⟩])
  (.seq
  (.seq
  (.region [
    ⟨(some 22), .move (.t 0), none⟩,
    ⟨(some 23), .len (.t 22), none⟩,
    ⟨(some 24), .move (.c (.int .i64 0)), none⟩])
  (.block 0
    (.loop
      (.seq
      (.region [
        ⟨(some 25), .bin .lss (.t 24) (.t 23), none⟩])
      (.seq
      (.cond (.t 25)
        .skip
        (.exit 0))
      (.seq
      (.block 1
        (.seq
        (.region [
          ⟨(some 26), .indexAddr 2 (.t 22) (.t 24), none⟩,
          ⟨(some 27), .load true 2 (.t 26), none⟩,
          ⟨(some 8), .alloc [.nil, (.int .i64 0)], none⟩,
          ⟨none, .store 2 (.t 8) (.t 27), none⟩])
        (.seq
        (.region [
          ⟨(some 28), .fieldAddr 1 (.t 8), none⟩,
          ⟨(some 29), .load false 1 (.t 28), none⟩,
          ⟨(some 30), .move (.c (.int .i64 0)), none⟩])
        (.block 2
          (.loop
            (.seq
            (.region [
              ⟨(some 31), .bin .lss (.t 30) (.t 29), none⟩])
            (.seq
            (.cond (.t 31)
              .skip
              (.exit 2))
            (.seq
            (.block 3
              (.region [
                ⟨(some 32), .move (.t 6), none⟩,
                ⟨(some 33), .fieldAddr 0 (.t 8), none⟩,
                ⟨(some 34), .load false 1 (.t 33), none⟩,
                ⟨(some 35), .call f_slices_Clone_LValue_Value [(.t 34)], none⟩,
                ⟨(some 36), .buildSlice 1 1 [.nil] [(0, (.t 35))], none⟩,
                ⟨(some 37), .append 1 24 [.nil] (.t 32) (.t 36), none⟩,
                ⟨(some 6), .move (.t 37), none⟩]))
            (.region [
              ⟨(some 38), .bin .add (.t 30) (.c (.int .i64 1)), none⟩,
              ⟨(some 30), .move (.t 38), none⟩])))))))))
      (.region [
        ⟨(some 39), .bin .add (.t 24) (.c (.int .i64 1)), none⟩,
        ⟨(some 24), .move (.t 39), none⟩])))))))
  (.seq
  (.region [
    ⟨(some 40), .move (.t 6), none⟩,
    ⟨(some 2), .move (.t 40), none⟩,
    ⟨(some 3), .move (.c (.int .i64 0)), none⟩])
  .ret))))))))⟩

structure F_bag_Expand (P : Program) where
  id : FuncId
  bag_Size : F_bag_Size P
  bag_IsTable : F_bag_IsTable P
  slices_Clone_LValue_Value : F_slices_Clone_LValue_Value P
  has : Has P id [] (c_bag_Expand bag_Size.id bag_IsTable.id slices_Clone_LValue_Value.id)

def c_warehouseref6_Expand (f_warehouseref6_Size : FuncId) (f_warehouseref6_positive : FuncId) : AFunc := ⟨47, [.tmp 2, .tmp 3],
  (.seq
  (.region [
    ⟨(some 2), .move (.c .nil), none⟩,
    ⟨(some 3), .move (.c (.int .i64 0)), none⟩])
  (.seq
  (.region [
    ⟨(some 10), .move (.t 0), none⟩,
    ⟨(some 11), .call f_warehouseref6_Size [(.t 10)], none⟩,
    ⟨(some 9), .move (.t 11), none⟩,
    ⟨(some 12), .extract (.t 9) 0, none⟩,
    ⟨(some 13), .extract (.t 9) 1, none⟩,
    ⟨(some 4), .move (.t 12), none⟩,
    ⟨(some 5), .move (.t 13), none⟩])
  (.seq
  (.seq
  (.region [
    ⟨(some 14), .move (.t 5), none⟩,
    ⟨(some 15), .bin .neq (.t 14) (.c (.int .i64 0)), none⟩])
  (.cond (.t 15)
    (.seq
    (.region [
      ⟨(some 16), .move (.t 5), none⟩,
      ⟨(some 2), .move (.c .nil), none⟩,
      ⟨(some 3), .move (.t 16), none⟩])
    .ret)
    .skip))
  (.seq
  (.seq
  (.region [
    ⟨(some 17), .move (.t 0), none⟩,
    ⟨(some 18), .call f_warehouseref6_positive [(.t 17)], none⟩,
    ⟨(some 19), .un .not (.t 18), none⟩])
  (.cond (.t 19)
    (.seq
    (.region [
      ⟨(some 2), .move (.c .nil), none⟩,
      ⟨(some 3), .move (.c (.int .i64 8)), none⟩])
    .ret)
    .skip))
  (.seq
  (.seq
  (.region [
    ⟨(some 20), .move (.t 4), none⟩,
    ⟨(some 21), .bin .gtr (.t 20) (.c (.int .i64 4096)), none⟩])
  (.cond (.t 21)
    (.seq
    (.region [
      ⟨(some 2), .move (.c .nil), none⟩,
      ⟨(some 3), .move (.c (.int .i64 2)), none⟩])
    .ret)
    .skip))
  (.seq
  (.region [
    ⟨(some 6), .move (.c .nil), none⟩])
  (.seq
  (.seq
  (.region [
    ⟨(some 7), .move (.c (.int .i64 0)), none⟩])
  (.block 0
    (.loop
      (.seq
      (.seq
      (.region [
        ⟨(some 22), .move (.t 7), none⟩,
        ⟨(some 23), .move (.t 0), none⟩,
        ⟨(some 24), .len (.t 23), none⟩,
        ⟨(some 25), .bin .lss (.t 22) (.t 24), none⟩])
      (.cond (.t 25)
        .skip
        (.exit 0)))
      (.seq
      (.block 1
        (.seq
        (.region [
          ⟨(some 8), .move (.c (.int .i64 0)), none⟩])
        (.block 2
          (.loop
            (.seq
            (.seq
            (.region [
              ⟨(some 28), .move (.t 8), none⟩,
              ⟨(some 29), .move (.t 0), none⟩,
              ⟨(some 30), .move (.t 7), none⟩,
              ⟨(some 31), .indexAddr 2 (.t 29) (.t 30), none⟩,
              ⟨(some 32), .fieldAddr 1 (.t 31), none⟩,
              ⟨(some 33), .load false 1 (.t 32), none⟩,
              ⟨(some 34), .bin .lss (.t 28) (.t 33), none⟩])
            (.cond (.t 34)
              .skip
              (.exit 2)))
            (.seq
            (.block 3
              (.region [
                ⟨(some 37), .move (.t 6), none⟩,
                ⟨(some 38), .move (.t 0), none⟩,
                ⟨(some 39), .move (.t 7), none⟩,
                ⟨(some 40), .indexAddr 2 (.t 38) (.t 39), none⟩,
                ⟨(some 41), .fieldAddr 0 (.t 40), none⟩,
                ⟨(some 42), .load false 1 (.t 41), none⟩,
                ⟨(some 43), .append 3 32 [(.int .i64 0), (.int .i64 0), (.str (bs []))] (.c .nil) (.t 42), none⟩,
                ⟨(some 44), .buildSliceO 1 1 [.nil] [(0, (.t 43))], none⟩,
                ⟨(some 45), .append 1 24 [.nil] (.t 37) (.t 44), none⟩,
                ⟨(some 6), .move (.t 45), none⟩]))
            (.region [
              ⟨(some 35), .move (.t 8), none⟩,
              ⟨(some 36), .bin .add (.t 35) (.c (.int .i64 1)), none⟩,
              ⟨(some 8), .move (.t 36), none⟩])))))))
      (.region [
        ⟨(some 26), .move (.t 7), none⟩,
        ⟨(some 27), .bin .add (.t 26) (.c (.int .i64 1)), none⟩,
        ⟨(some 7), .move (.t 27), none⟩]))))))
  (.seq
  (.region [
    ⟨(some 46), .move (.t 6), none⟩,
    ⟨(some 2), .move (.t 46), none⟩,
    ⟨(some 3), .move (.c (.int .i64 0)), none⟩])
  .ret))))))))⟩

structure F_warehouseref6_Expand (P : Program) where
  id : FuncId
  warehouseref6_Size : F_warehouseref6_Size P
  warehouseref6_positive : F_warehouseref6_positive P
  has : Has P id [44] (c_warehouseref6_Expand warehouseref6_Size.id warehouseref6_positive.id)

end Go.AW

