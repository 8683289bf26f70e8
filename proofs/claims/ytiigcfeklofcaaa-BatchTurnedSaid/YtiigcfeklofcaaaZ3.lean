/-
  An abstract machine over the model, the code of functions on it, and their contracts: what the claim needs.
  No condition: definitions, plain laws, contracts over any program that has this code.
-/
import Derived.Test.YtiigcfeklofcaaaZ2
set_option linter.all false
namespace Go.AW
def c_value_Valid : AFunc := ⟨66, [.tmp 2],
  (.seq
  (.region [
    ⟨(some 1), .box (.t 0), none⟩,
    ⟨(some 2), .move (.c (.bool false)), none⟩])
  (.seq
  (.seq
  (.region [
    ⟨(some 3), .fieldAddr 0 (.t 1), none⟩,
    ⟨(some 4), .load false 1 (.t 3), none⟩])
  (.block 0
    (.seq
    (.region [
      ⟨(some 6), .bin .eql (.t 4) (.c (.int .i64 0)), none⟩,
      ⟨(some 5), .move (.t 6), none⟩])
    (.cond (.t 5)
      (.seq
      (.region [
        ⟨(some 7), .load true 3 (.t 1), none⟩,
        ⟨(some 8), .build [(.int .i64 0), (.int .i64 0), (.str (bs []))] [], none⟩,
        ⟨(some 9), .eqs false [1, 1, 2] (.t 7) (.t 8), none⟩,
        ⟨(some 2), .move (.t 9), none⟩])
      .ret)
      (.seq
      (.region [
        ⟨(some 11), .bin .eql (.t 4) (.c (.int .i64 1)), none⟩,
        ⟨(some 10), .move (.t 11), none⟩])
      (.cond (.t 10)
        (.seq
        (.region [
          ⟨(some 12), .fieldAddr 2 (.t 1), none⟩,
          ⟨(some 13), .load false 1 (.t 12), none⟩,
          ⟨(some 14), .bin .eql (.t 13) (.c (.str (bs []))), none⟩,
          ⟨(some 15), .move (.t 14), none⟩,
          ⟨(some 16), .fieldAddr 1 (.t 1), some (some 15, true)⟩,
          ⟨(some 17), .load false 1 (.t 16), some (some 15, true)⟩,
          ⟨(some 18), .bin .eql (.t 17) (.c (.int .i64 0)), some (some 15, true)⟩,
          ⟨(some 19), .move (.t 18), some (some 15, true)⟩,
          ⟨(some 20), .fieldAddr 1 (.t 1), some (some 19, false)⟩,
          ⟨(some 21), .load false 1 (.t 20), some (some 19, false)⟩,
          ⟨(some 22), .bin .eql (.t 21) (.c (.int .i64 1)), some (some 19, false)⟩,
          ⟨(some 23), .pick (.t 19) (.c (.bool true)) (.t 22), some (some 15, true)⟩,
          ⟨(some 24), .pick (.t 15) (.t 23) (.c (.bool false)), none⟩,
          ⟨(some 2), .move (.t 24), none⟩])
        .ret)
        (.seq
        (.region [
          ⟨(some 26), .bin .eql (.t 4) (.c (.int .i64 2)), none⟩,
          ⟨(some 25), .move (.t 26), none⟩])
        (.cond (.t 25)
          (.seq
          (.region [
            ⟨(some 27), .fieldAddr 2 (.t 1), none⟩,
            ⟨(some 28), .load false 1 (.t 27), none⟩,
            ⟨(some 29), .bin .eql (.t 28) (.c (.str (bs []))), none⟩,
            ⟨(some 30), .move (.t 29), none⟩,
            ⟨(some 31), .fieldAddr 1 (.t 1), some (some 30, true)⟩,
            ⟨(some 32), .load false 1 (.t 31), some (some 30, true)⟩,
            ⟨(some 33), .bin .geq (.t 32) (.c (.int .i64 (-1073741824))), some (some 30, true)⟩,
            ⟨(some 34), .pick (.t 30) (.t 33) (.c (.bool false)), none⟩,
            ⟨(some 35), .move (.t 34), none⟩,
            ⟨(some 36), .fieldAddr 1 (.t 1), some (some 35, true)⟩,
            ⟨(some 37), .load false 1 (.t 36), some (some 35, true)⟩,
            ⟨(some 38), .bin .leq (.t 37) (.c (.int .i64 1073741824)), some (some 35, true)⟩,
            ⟨(some 39), .pick (.t 35) (.t 38) (.c (.bool false)), none⟩,
            ⟨(some 2), .move (.t 39), none⟩])
          .ret)
          (.seq
          (.region [
            ⟨(some 41), .bin .eql (.t 4) (.c (.int .i64 3)), none⟩,
            ⟨(some 40), .move (.t 41), none⟩])
          (.cond (.t 40)
            (.seq
            (.region [
              ⟨(some 42), .fieldAddr 1 (.t 1), none⟩,
              ⟨(some 43), .load false 1 (.t 42), none⟩,
              ⟨(some 44), .bin .eql (.t 43) (.c (.int .i64 0)), none⟩,
              ⟨(some 45), .move (.t 44), none⟩,
              ⟨(some 46), .fieldAddr 2 (.t 1), some (some 45, true)⟩,
              ⟨(some 47), .load false 1 (.t 46), some (some 45, true)⟩,
              ⟨(some 48), .lenS (.t 47), some (some 45, true)⟩,
              ⟨(some 49), .bin .leq (.t 48) (.c (.int .i64 64)), some (some 45, true)⟩,
              ⟨(some 50), .pick (.t 45) (.t 49) (.c (.bool false)), none⟩,
              ⟨(some 2), .move (.t 50), none⟩])
            .ret)
            (.seq
            (.region [
              ⟨(some 52), .bin .eql (.t 4) (.c (.int .i64 4)), none⟩,
              ⟨(some 51), .move (.t 52), none⟩])
            (.cond (.t 51)
              (.seq
              (.region [
                ⟨(some 53), .fieldAddr 2 (.t 1), none⟩,
                ⟨(some 54), .load false 1 (.t 53), none⟩,
                ⟨(some 55), .bin .eql (.t 54) (.c (.str (bs []))), none⟩,
                ⟨(some 56), .move (.t 55), none⟩,
                ⟨(some 57), .fieldAddr 1 (.t 1), some (some 56, true)⟩,
                ⟨(some 58), .load false 1 (.t 57), some (some 56, true)⟩,
                ⟨(some 59), .bin .geq (.t 58) (.c (.int .i64 0)), some (some 56, true)⟩,
                ⟨(some 60), .pick (.t 56) (.t 59) (.c (.bool false)), none⟩,
                ⟨(some 61), .move (.t 60), none⟩,
                ⟨(some 62), .fieldAddr 1 (.t 1), some (some 61, true)⟩,
                ⟨(some 63), .load false 1 (.t 62), some (some 61, true)⟩,
                ⟨(some 64), .bin .leq (.t 63) (.c (.int .i64 575999999)), some (some 61, true)⟩,
                ⟨(some 65), .pick (.t 61) (.t 64) (.c (.bool false)), none⟩,
                ⟨(some 2), .move (.t 65), none⟩])
              .ret)
              .skip))))))))))))
  (.seq
  (.region [
    ⟨(some 2), .move (.c (.bool false)), none⟩])
  .ret)))⟩

structure F_value_Valid (P : Program) where
  id : FuncId
  has : Has P id [] c_value_Valid

def c_warehouseref1_Valid : AFunc := ⟨71, [.tmp 2],
  (.seq
  (.region [
    ⟨(some 1), .box (.t 0), none⟩,
    ⟨(some 2), .move (.c (.bool false)), none⟩])
  (.seq
  (.seq
  (.region [
    ⟨(some 3), .fieldAddr 0 (.t 1), none⟩,
    ⟨(some 4), .load false 1 (.t 3), none⟩])
  (.block 0
    (.seq
    (.region [
      ⟨(some 6), .bin .eql (.t 4) (.c (.int .i64 0)), none⟩,
      ⟨(some 5), .move (.t 6), none⟩])
    (.cond (.t 5)
      (.seq
      (.region [
        ⟨(some 7), .fieldAddr 1 (.t 1), none⟩,
        ⟨(some 8), .load false 1 (.t 7), none⟩,
        ⟨(some 9), .bin .eql (.t 8) (.c (.int .i64 0)), none⟩,
        ⟨(some 10), .move (.t 9), none⟩,
        ⟨(some 11), .fieldAddr 2 (.t 1), some (some 10, true)⟩,
        ⟨(some 12), .load false 1 (.t 11), some (some 10, true)⟩,
        ⟨(some 13), .bin .eql (.t 12) (.c (.str (bs []))), some (some 10, true)⟩,
        ⟨(some 14), .pick (.t 10) (.t 13) (.c (.bool false)), none⟩,
        ⟨(some 2), .move (.t 14), none⟩])
      .ret)
      (.seq
      (.region [
        ⟨(some 16), .bin .eql (.t 4) (.c (.int .i64 1)), none⟩,
        ⟨(some 15), .move (.t 16), none⟩])
      (.cond (.t 15)
        (.seq
        (.region [
          ⟨(some 17), .fieldAddr 1 (.t 1), none⟩,
          ⟨(some 18), .load false 1 (.t 17), none⟩,
          ⟨(some 19), .bin .eql (.t 18) (.c (.int .i64 0)), none⟩,
          ⟨(some 20), .move (.t 19), none⟩,
          ⟨(some 21), .fieldAddr 1 (.t 1), some (some 20, false)⟩,
          ⟨(some 22), .load false 1 (.t 21), some (some 20, false)⟩,
          ⟨(some 23), .bin .eql (.t 22) (.c (.int .i64 1)), some (some 20, false)⟩,
          ⟨(some 24), .pick (.t 20) (.c (.bool true)) (.t 23), none⟩,
          ⟨(some 25), .move (.t 24), none⟩,
          ⟨(some 26), .fieldAddr 2 (.t 1), some (some 25, true)⟩,
          ⟨(some 27), .load false 1 (.t 26), some (some 25, true)⟩,
          ⟨(some 28), .bin .eql (.t 27) (.c (.str (bs []))), some (some 25, true)⟩,
          ⟨(some 29), .pick (.t 25) (.t 28) (.c (.bool false)), none⟩,
          ⟨(some 2), .move (.t 29), none⟩])
        .ret)
        (.seq
        (.region [
          ⟨(some 31), .bin .eql (.t 4) (.c (.int .i64 2)), none⟩,
          ⟨(some 30), .move (.t 31), none⟩])
        (.cond (.t 30)
          (.seq
          (.region [
            ⟨(some 32), .fieldAddr 1 (.t 1), none⟩,
            ⟨(some 33), .load false 1 (.t 32), none⟩,
            ⟨(some 34), .bin .geq (.t 33) (.c (.int .i64 (-1073741824))), none⟩,
            ⟨(some 35), .move (.t 34), none⟩,
            ⟨(some 36), .fieldAddr 1 (.t 1), some (some 35, true)⟩,
            ⟨(some 37), .load false 1 (.t 36), some (some 35, true)⟩,
            ⟨(some 38), .bin .leq (.t 37) (.c (.int .i64 1073741824)), some (some 35, true)⟩,
            ⟨(some 39), .pick (.t 35) (.t 38) (.c (.bool false)), none⟩,
            ⟨(some 40), .move (.t 39), none⟩,
            ⟨(some 41), .fieldAddr 2 (.t 1), some (some 40, true)⟩,
            ⟨(some 42), .load false 1 (.t 41), some (some 40, true)⟩,
            ⟨(some 43), .bin .eql (.t 42) (.c (.str (bs []))), some (some 40, true)⟩,
            ⟨(some 44), .pick (.t 40) (.t 43) (.c (.bool false)), none⟩,
            ⟨(some 2), .move (.t 44), none⟩])
          .ret)
          (.seq
          (.region [
            ⟨(some 46), .bin .eql (.t 4) (.c (.int .i64 3)), none⟩,
            ⟨(some 45), .move (.t 46), none⟩])
          (.cond (.t 45)
            (.seq
            (.region [
              ⟨(some 47), .fieldAddr 1 (.t 1), none⟩,
              ⟨(some 48), .load false 1 (.t 47), none⟩,
              ⟨(some 49), .bin .eql (.t 48) (.c (.int .i64 0)), none⟩,
              ⟨(some 50), .move (.t 49), none⟩,
              ⟨(some 51), .fieldAddr 2 (.t 1), some (some 50, true)⟩,
              ⟨(some 52), .load false 1 (.t 51), some (some 50, true)⟩,
              ⟨(some 53), .lenS (.t 52), some (some 50, true)⟩,
              ⟨(some 54), .bin .leq (.t 53) (.c (.int .i64 64)), some (some 50, true)⟩,
              ⟨(some 55), .pick (.t 50) (.t 54) (.c (.bool false)), none⟩,
              ⟨(some 2), .move (.t 55), none⟩])
            .ret)
            (.seq
            (.region [
              ⟨(some 57), .bin .eql (.t 4) (.c (.int .i64 4)), none⟩,
              ⟨(some 56), .move (.t 57), none⟩])
            (.cond (.t 56)
              (.seq
              (.region [
                ⟨(some 58), .fieldAddr 1 (.t 1), none⟩,
                ⟨(some 59), .load false 1 (.t 58), none⟩,
                ⟨(some 60), .bin .geq (.t 59) (.c (.int .i64 0)), none⟩,
                ⟨(some 61), .move (.t 60), none⟩,
                ⟨(some 62), .fieldAddr 1 (.t 1), some (some 61, true)⟩,
                ⟨(some 63), .load false 1 (.t 62), some (some 61, true)⟩,
                ⟨(some 64), .bin .leq (.t 63) (.c (.int .i64 575999999)), some (some 61, true)⟩,
                ⟨(some 65), .pick (.t 61) (.t 64) (.c (.bool false)), none⟩,
                ⟨(some 66), .move (.t 65), none⟩,
                ⟨(some 67), .fieldAddr 2 (.t 1), some (some 66, true)⟩,
                ⟨(some 68), .load false 1 (.t 67), some (some 66, true)⟩,
                ⟨(some 69), .bin .eql (.t 68) (.c (.str (bs []))), some (some 66, true)⟩,
                ⟨(some 70), .pick (.t 66) (.t 69) (.c (.bool false)), none⟩,
                ⟨(some 2), .move (.t 70), none⟩])
              .ret)
              .skip))))))))))))
  (.seq
  (.region [
    ⟨(some 2), .move (.c (.bool false)), none⟩])
  .ret)))⟩

structure F_warehouseref1_Valid (P : Program) where
  id : FuncId
  has : Has P id [] c_warehouseref1_Valid

def c_value_word : AFunc := ⟨19, [.tmp 4],
  (.seq
  (.region [
    ⟨(some 4), .move (.c .nil), none⟩])
  (.seq
  (.region [
    ⟨(some 5), .move (.t 0), none⟩,
    ⟨(some 6), .move (.t 1), none⟩,
    ⟨(some 7), .bin .shr (.t 6) (.c (.int .u64 24)), none⟩,
    ⟨(some 8), .conv .u8 (.t 7), none⟩,
    ⟨(some 9), .move (.t 1), none⟩,
    ⟨(some 10), .bin .shr (.t 9) (.c (.int .u64 16)), none⟩,
    ⟨(some 11), .conv .u8 (.t 10), none⟩,
    ⟨(some 12), .move (.t 1), none⟩,
    ⟨(some 13), .bin .shr (.t 12) (.c (.int .u64 8)), none⟩,
    ⟨(some 14), .conv .u8 (.t 13), none⟩,
    ⟨(some 15), .move (.t 1), none⟩,
    ⟨(some 16), .conv .u8 (.t 15), none⟩,
    ⟨(some 17), .buildSlice 1 4 [(.int .u8 0)] [(0, (.t 8)), (1, (.t 11)), (2, (.t 14)), (3, (.t 16))], none⟩,
    ⟨(some 18), .append 1 1 [(.int .u8 0)] (.t 5) (.t 17), none⟩,
    ⟨(some 4), .move (.t 18), none⟩])
  .ret))⟩

structure F_value_word (P : Program) where
  id : FuncId
  has : Has P id [] c_value_word

def c_value_Encode (f_value_Valid : FuncId) (f_value_word : FuncId) : AFunc := ⟨67, [.tmp 2, .tmp 3],
  (.seq
  (.region [
    ⟨(some 2), .move (.c .nil), none⟩,
    ⟨(some 3), .move (.c (.int .i64 0)), none⟩])
  (.seq
  (.seq
  (.region [
    ⟨(some 7), .move (.t 0), none⟩,
    ⟨(some 8), .len (.t 7), none⟩,
    ⟨(some 9), .bin .gtr (.t 8) (.c (.int .i64 12)), none⟩])
  (.cond (.t 9)
    (.seq
    (.region [
      ⟨(some 2), .move (.c .nil), none⟩,
      ⟨(some 3), .move (.c (.int .i64 2)), none⟩])
    .ret)
    .skip))
  (.seq
  (.region [
    ⟨(some 10), .move (.t 0), none⟩,
    ⟨(some 11), .len (.t 10), none⟩,
    ⟨(some 12), .conv .u8 (.t 11), none⟩,
    ⟨(some 13), .buildSliceO 1 1 [(.int .u8 0)] [(0, (.t 12))], none⟩,
    ⟨(some 4), .move (.t 13), none⟩])
  (.seq
  (.seq
  (.region [
    ⟨(some 14), .move (.t 0), none⟩,
    ⟨(some 15), .len (.t 14), none⟩,
    ⟨(some 16), .move (.c (.int .i64 0)), none⟩])
  (.block 0
    (.loop
      (.seq
      (.region [
        ⟨(some 17), .bin .lss (.t 16) (.t 15), none⟩])
      (.seq
      (.cond (.t 17)
        .skip
        (.exit 0))
      (.seq
      (.block 1
        (.seq
        (.region [
          ⟨(some 18), .indexAddr 3 (.t 14) (.t 16), none⟩,
          ⟨(some 19), .load true 3 (.t 18), none⟩,
          ⟨(some 6), .alloc [(.int .i64 0), (.int .i64 0), (.str (bs []))], none⟩,
          ⟨none, .store 3 (.t 6) (.t 19), none⟩])
        (.seq
        (.seq
        (.region [
          ⟨(some 20), .load true 3 (.t 6), none⟩,
          ⟨(some 21), .call f_value_Valid [(.t 20)], none⟩,
          ⟨(some 22), .un .not (.t 21), none⟩])
        (.cond (.t 22)
          (.seq
          (.region [
            ⟨(some 2), .move (.c .nil), none⟩,
            ⟨(some 3), .move (.c (.int .i64 8)), none⟩])
          .ret)
          .skip))
        (.seq
        (.region [
          ⟨(some 23), .move (.t 4), none⟩,
          ⟨(some 24), .fieldAddr 0 (.t 6), none⟩,
          ⟨(some 25), .load false 1 (.t 24), none⟩,
          ⟨(some 26), .conv .u8 (.t 25), none⟩,
          ⟨(some 27), .buildSlice 1 1 [(.int .u8 0)] [(0, (.t 26))], none⟩,
          ⟨(some 28), .append 1 1 [(.int .u8 0)] (.t 23) (.t 27), none⟩,
          ⟨(some 4), .move (.t 28), none⟩])
        (.seq
        (.region [
          ⟨(some 29), .fieldAddr 0 (.t 6), none⟩,
          ⟨(some 30), .load false 1 (.t 29), none⟩])
        (.block 2
          (.seq
          (.region [
            ⟨(some 32), .bin .eql (.t 30) (.c (.int .i64 1)), none⟩,
            ⟨(some 31), .move (.t 32), none⟩])
          (.cond (.t 31)
            (.region [
              ⟨(some 33), .move (.t 4), none⟩,
              ⟨(some 34), .fieldAddr 1 (.t 6), none⟩,
              ⟨(some 35), .load false 1 (.t 34), none⟩,
              ⟨(some 36), .conv .u8 (.t 35), none⟩,
              ⟨(some 37), .buildSlice 1 1 [(.int .u8 0)] [(0, (.t 36))], none⟩,
              ⟨(some 38), .append 1 1 [(.int .u8 0)] (.t 33) (.t 37), none⟩,
              ⟨(some 4), .move (.t 38), none⟩])
            (.seq
            (.region [
              ⟨(some 40), .bin .eql (.t 30) (.c (.int .i64 2)), none⟩,
              ⟨(some 39), .move (.t 40), none⟩])
            (.cond (.t 39)
              (.region [
                ⟨(some 41), .move (.t 4), none⟩,
                ⟨(some 42), .fieldAddr 1 (.t 6), none⟩,
                ⟨(some 43), .load false 1 (.t 42), none⟩,
                ⟨(some 44), .bin .add (.t 43) (.c (.int .i64 1073741824)), none⟩,
                ⟨(some 45), .call f_value_word [(.t 41), (.t 44)], none⟩,
                ⟨(some 4), .move (.t 45), none⟩])
              (.seq
              (.region [
                ⟨(some 47), .bin .eql (.t 30) (.c (.int .i64 4)), none⟩,
                ⟨(some 46), .move (.t 47), none⟩])
              (.cond (.t 46)
                (.region [
                  ⟨(some 48), .move (.t 4), none⟩,
                  ⟨(some 49), .fieldAddr 1 (.t 6), none⟩,
                  ⟨(some 50), .load false 1 (.t 49), none⟩,
                  ⟨(some 51), .call f_value_word [(.t 48), (.t 50)], none⟩,
                  ⟨(some 4), .move (.t 51), none⟩])
                (.seq
                (.region [
                  ⟨(some 53), .bin .eql (.t 30) (.c (.int .i64 3)), none⟩,
                  ⟨(some 52), .move (.t 53), none⟩])
                (.cond (.t 52)
                  (.seq
                  (.region [
                    ⟨(some 54), .move (.t 4), none⟩,
                    ⟨(some 55), .fieldAddr 2 (.t 6), none⟩,
                    ⟨(some 56), .load false 1 (.t 55), none⟩,
                    ⟨(some 57), .lenS (.t 56), none⟩,
                    ⟨(some 58), .conv .u8 (.t 57), none⟩,
                    ⟨(some 59), .buildSlice 1 1 [(.int .u8 0)] [(0, (.t 58))], none⟩,
                    ⟨(some 60), .append 1 1 [(.int .u8 0)] (.t 54) (.t 59), none⟩,
                    ⟨(some 4), .move (.t 60), none⟩])
                  (.region [
                    ⟨(some 61), .move (.t 4), none⟩,
                    ⟨(some 62), .fieldAddr 2 (.t 6), none⟩,
                    ⟨(some 63), .load false 1 (.t 62), none⟩,
                    ⟨(some 64), .append 1 1 [(.int .u8 0)] (.t 61) (.t 63), none⟩,
                    ⟨(some 4), .move (.t 64), none⟩]))
                  .skip))))))))))))))
      (.region [
        ⟨(some 65), .bin .add (.t 16) (.c (.int .i64 1)), none⟩,
        ⟨(some 16), .move (.t 65), none⟩])))))))
  (.seq
  (.region [
    ⟨(some 66), .move (.t 4), none⟩,
    ⟨(some 2), .move (.t 66), none⟩,
    ⟨(some 3), .move (.c (.int .i64 0)), none⟩])
  .ret)))))⟩

structure F_value_Encode (P : Program) where
  id : FuncId
  value_Valid : F_value_Valid P
  value_word : F_value_word P
  has : Has P id [13] (c_value_Encode value_Valid.id value_word.id)

def c_warehouseref1_four : AFunc := ⟨15, [.tmp 2],
  (.seq
  (.region [
    ⟨(some 2), .move (.c .nil), none⟩])
  (.seq
  (.region [
    ⟨(some 3), .move (.t 0), none⟩,
    ⟨(some 4), .bin .shr (.t 3) (.c (.int .u64 24)), none⟩,
    ⟨(some 5), .conv .u8 (.t 4), none⟩,
    ⟨(some 6), .move (.t 0), none⟩,
    ⟨(some 7), .bin .shr (.t 6) (.c (.int .u64 16)), none⟩,
    ⟨(some 8), .conv .u8 (.t 7), none⟩,
    ⟨(some 9), .move (.t 0), none⟩,
    ⟨(some 10), .bin .shr (.t 9) (.c (.int .u64 8)), none⟩,
    ⟨(some 11), .conv .u8 (.t 10), none⟩,
    ⟨(some 12), .move (.t 0), none⟩,
    ⟨(some 13), .conv .u8 (.t 12), none⟩,
    ⟨(some 14), .buildSlice 1 4 [(.int .u8 0)] [(0, (.t 5)), (1, (.t 8)), (2, (.t 11)), (3, (.t 13))], none⟩,
    ⟨(some 2), .move (.t 14), none⟩])
  .ret))⟩

structure F_warehouseref1_four (P : Program) where
  id : FuncId
  has : Has P id [] c_warehouseref1_four

def c_warehouseref1_Encode (f_warehouseref1_Valid : FuncId) (f_warehouseref1_four : FuncId) : AFunc := ⟨71, [.tmp 2, .tmp 3],
  (.seq
  (.region [
    ⟨(some 2), .move (.c .nil), none⟩,
    ⟨(some 3), .move (.c (.int .i64 0)), none⟩])
  (.seq
  (.seq
  (.region [
    ⟨(some 7), .move (.t 0), none⟩,
    ⟨(some 8), .len (.t 7), none⟩,
    ⟨(some 9), .bin .gtr (.t 8) (.c (.int .i64 12)), none⟩])
  (.cond (.t 9)
    (.seq
    (.region [
      ⟨(some 2), .move (.c .nil), none⟩,
      ⟨(some 3), .move (.c (.int .i64 2)), none⟩])
    .ret)
    .skip))
  (.seq
  (.region [
    ⟨(some 10), .move (.t 0), none⟩,
    ⟨(some 11), .len (.t 10), none⟩,
    ⟨(some 12), .conv .u8 (.t 11), none⟩,
    ⟨(some 13), .buildSliceO 1 1 [(.int .u8 0)] [(0, (.t 12))], none⟩,
    ⟨(some 4), .move (.t 13), none⟩])
  (.seq
  (.seq
  (.region [
    ⟨(some 5), .move (.c (.int .i64 0)), none⟩])
  (.block 0
    (.loop
      (.seq
      (.seq
      (.region [
        ⟨(some 14), .move (.t 5), none⟩,
        ⟨(some 15), .move (.t 0), none⟩,
        ⟨(some 16), .len (.t 15), none⟩,
        ⟨(some 17), .bin .lss (.t 14) (.t 16), none⟩])
      (.cond (.t 17)
        .skip
        (.exit 0)))
      (.seq
      (.block 1
        (.seq
        (.region [
          ⟨(some 20), .move (.t 0), none⟩,
          ⟨(some 21), .move (.t 5), none⟩,
          ⟨(some 22), .indexAddr 3 (.t 20) (.t 21), none⟩,
          ⟨(some 23), .load true 3 (.t 22), none⟩,
          ⟨(some 6), .alloc [(.int .i64 0), (.int .i64 0), (.str (bs []))], none⟩,
          ⟨none, .store 3 (.t 6) (.t 23), none⟩])
        (.seq
        (.seq
        (.region [
          ⟨(some 24), .load true 3 (.t 6), none⟩,
          ⟨(some 25), .call f_warehouseref1_Valid [(.t 24)], none⟩,
          ⟨(some 26), .un .not (.t 25), none⟩])
        (.cond (.t 26)
          (.seq
          (.region [
            ⟨(some 2), .move (.c .nil), none⟩,
            ⟨(some 3), .move (.c (.int .i64 8)), none⟩])
          .ret)
          .skip))
        (.seq
        (.region [
          ⟨(some 27), .move (.t 4), none⟩,
          ⟨(some 28), .fieldAddr 0 (.t 6), none⟩,
          ⟨(some 29), .load false 1 (.t 28), none⟩,
          ⟨(some 30), .conv .u8 (.t 29), none⟩,
          ⟨(some 31), .buildSlice 1 1 [(.int .u8 0)] [(0, (.t 30))], none⟩,
          ⟨(some 32), .append 1 1 [(.int .u8 0)] (.t 27) (.t 31), none⟩,
          ⟨(some 4), .move (.t 32), none⟩])
        (.seq
        (.region [
          ⟨(some 33), .fieldAddr 0 (.t 6), none⟩,
          ⟨(some 34), .load false 1 (.t 33), none⟩])
        (.block 2
          (.seq
          (.region [
            ⟨(some 36), .bin .eql (.t 34) (.c (.int .i64 1)), none⟩,
            ⟨(some 35), .move (.t 36), none⟩])
          (.cond (.t 35)
            (.region [
              ⟨(some 37), .move (.t 4), none⟩,
              ⟨(some 38), .fieldAddr 1 (.t 6), none⟩,
              ⟨(some 39), .load false 1 (.t 38), none⟩,
              ⟨(some 40), .conv .u8 (.t 39), none⟩,
              ⟨(some 41), .buildSlice 1 1 [(.int .u8 0)] [(0, (.t 40))], none⟩,
              ⟨(some 42), .append 1 1 [(.int .u8 0)] (.t 37) (.t 41), none⟩,
              ⟨(some 4), .move (.t 42), none⟩])
            (.seq
            (.region [
              ⟨(some 44), .bin .eql (.t 34) (.c (.int .i64 2)), none⟩,
              ⟨(some 43), .move (.t 44), none⟩])
            (.cond (.t 43)
              (.region [
                ⟨(some 45), .move (.t 4), none⟩,
                ⟨(some 46), .fieldAddr 1 (.t 6), none⟩,
                ⟨(some 47), .load false 1 (.t 46), none⟩,
                ⟨(some 48), .bin .add (.t 47) (.c (.int .i64 1073741824)), none⟩,
                ⟨(some 49), .call f_warehouseref1_four [(.t 48)], none⟩,
                ⟨(some 50), .append 1 1 [(.int .u8 0)] (.t 45) (.t 49), none⟩,
                ⟨(some 4), .move (.t 50), none⟩])
              (.seq
              (.region [
                ⟨(some 52), .bin .eql (.t 34) (.c (.int .i64 3)), none⟩,
                ⟨(some 51), .move (.t 52), none⟩])
              (.cond (.t 51)
                (.draw [
                  (⟨(some 53), .move (.t 4), none⟩, []),
                  (⟨(some 54), .fieldAddr 2 (.t 6), none⟩, []),
                  (⟨(some 55), .load false 1 (.t 54), none⟩, []),
                  (⟨(some 56), .lenS (.t 55), none⟩, []),
                  (⟨(some 57), .conv .u8 (.t 56), none⟩, []),
                  (⟨(some 58), .buildSlice 1 1 [(.int .u8 0)] [(0, (.t 57))], none⟩, []),
                  (⟨(some 59), .append 1 1 [(.int .u8 0)] (.t 53) (.t 58), none⟩, []),
                  (⟨(some 60), .fieldAddr 2 (.t 6), none⟩, []),
                  (⟨(some 61), .load false 1 (.t 60), none⟩, [11]),
                  (⟨(some 62), .append 1 1 [(.int .u8 0)] (.t 59) (.t 61), none⟩, []),
                  (⟨(some 4), .move (.t 62), none⟩, [])])
                (.seq
                (.region [
                  ⟨(some 64), .bin .eql (.t 34) (.c (.int .i64 4)), none⟩,
                  ⟨(some 63), .move (.t 64), none⟩])
                (.cond (.t 63)
                  (.region [
                    ⟨(some 65), .move (.t 4), none⟩,
                    ⟨(some 66), .fieldAddr 1 (.t 6), none⟩,
                    ⟨(some 67), .load false 1 (.t 66), none⟩,
                    ⟨(some 68), .call f_warehouseref1_four [(.t 67)], none⟩,
                    ⟨(some 69), .append 1 1 [(.int .u8 0)] (.t 65) (.t 68), none⟩,
                    ⟨(some 4), .move (.t 69), none⟩])
                  .skip))))))))))))))
      (.region [
        ⟨(some 18), .move (.t 5), none⟩,
        ⟨(some 19), .bin .add (.t 18) (.c (.int .i64 1)), none⟩,
        ⟨(some 5), .move (.t 19), none⟩]))))))
  (.seq
  (.region [
    ⟨(some 70), .move (.t 4), none⟩,
    ⟨(some 2), .move (.t 70), none⟩,
    ⟨(some 3), .move (.c (.int .i64 0)), none⟩])
  .ret)))))⟩

structure F_warehouseref1_Encode (P : Program) where
  id : FuncId
  warehouseref1_Valid : F_warehouseref1_Valid P
  warehouseref1_four : F_warehouseref1_four P
  has : Has P id [13] (c_warehouseref1_Encode warehouseref1_Valid.id warehouseref1_four.id)

def c_value_number : AFunc := ⟨19, [.tmp 2],
  (.seq
  (.region [
    ⟨(some 2), .move (.c (.int .i64 0)), none⟩])
  (.seq
  (.region [
    ⟨(some 3), .move (.c (.int .i64 0)), none⟩])
  (.seq
  (.seq
  (.region [
    ⟨(some 6), .move (.t 0), none⟩,
    ⟨(some 7), .len (.t 6), none⟩,
    ⟨(some 8), .move (.c (.int .i64 0)), none⟩])
  (.block 0
    (.loop
      (.seq
      (.region [
        ⟨(some 9), .bin .lss (.t 8) (.t 7), none⟩])
      (.seq
      (.cond (.t 9)
        .skip
        (.exit 0))
      (.seq
      (.block 1
        (.seq
        (.region [
          ⟨(some 10), .indexAddr 1 (.t 6) (.t 8), none⟩,
          ⟨(some 11), .load false 1 (.t 10), none⟩,
          ⟨(some 5), .move (.t 11), none⟩])
        (.region [
          ⟨(some 12), .move (.t 3), none⟩,
          ⟨(some 13), .bin .shl (.t 12) (.c (.int .u64 8)), none⟩,
          ⟨(some 14), .move (.t 5), none⟩,
          ⟨(some 15), .conv .i64 (.t 14), none⟩,
          ⟨(some 16), .bin .or (.t 13) (.t 15), none⟩,
          ⟨(some 3), .move (.t 16), none⟩])))
      (.region [
        ⟨(some 17), .bin .add (.t 8) (.c (.int .i64 1)), none⟩,
        ⟨(some 8), .move (.t 17), none⟩])))))))
  (.seq
  (.region [
    ⟨(some 18), .move (.t 3), none⟩,
    ⟨(some 2), .move (.t 18), none⟩])
  .ret))))⟩

structure F_value_number (P : Program) where
  id : FuncId
  has : Has P id [] c_value_number

def c_value_decode (f_value_number : FuncId) : AFunc := ⟨98, [.cell true 3 2, .tmp 3],
  (.seq
  (.region [
    ⟨(some 2), .alloc [(.int .i64 0), (.int .i64 0), (.str (bs []))], none⟩,
    ⟨(some 3), .move (.c (.int .i64 0)), none⟩])
  (.seq
  (.seq
  (.region [
    ⟨(some 5), .move (.t 0), none⟩,
    ⟨(some 6), .len (.t 5), none⟩,
    ⟨(some 7), .bin .eql (.t 6) (.c (.int .i64 0)), none⟩])
  (.cond (.t 7)
    (.seq
    (.region [
      ⟨(some 8), .build [(.int .i64 0), (.int .i64 0), (.str (bs []))] [], none⟩,
      ⟨none, .store 3 (.t 2) (.t 8), none⟩,
      ⟨(some 3), .move (.c (.int .i64 0)), none⟩])
    .ret)
    .skip))
  (.seq
  (.region [
    ⟨(some 9), .move (.t 0), none⟩,
    ⟨(some 10), .indexAddr 1 (.t 9) (.c (.int .i64 0)), none⟩,
    ⟨(some 11), .load false 1 (.t 10), none⟩,
    ⟨(some 12), .conv .i64 (.t 11), none⟩,
    ⟨(some 13), .build [(.int .i64 0), (.int .i64 0), (.str (bs []))] [(0, 1, (.t 12))], none⟩,
    ⟨(some 4), .alloc [(.int .i64 0), (.int .i64 0), (.str (bs []))], none⟩,
    ⟨none, .store 3 (.t 4) (.t 13), none⟩])
  (.seq
  (.block 0
    (.seq
    (.region [
      ⟨(some 15), .fieldAddr 0 (.t 4), none⟩,
      ⟨(some 16), .load false 1 (.t 15), none⟩,
      ⟨(some 17), .bin .eql (.t 16) (.c (.int .i64 0)), none⟩,
      ⟨(some 14), .move (.t 17), none⟩])
    (.cond (.t 14)
      (.seq
      (.region [
        ⟨(some 18), .load true 3 (.t 4), none⟩,
        ⟨none, .store 3 (.t 2) (.t 18), none⟩,
        ⟨(some 3), .move (.c (.int .i64 1)), none⟩])
      .ret)
      (.seq
      (.region [
        ⟨(some 20), .fieldAddr 0 (.t 4), none⟩,
        ⟨(some 21), .load false 1 (.t 20), none⟩,
        ⟨(some 22), .bin .eql (.t 21) (.c (.int .i64 1)), none⟩,
        ⟨(some 23), .move (.t 22), none⟩,
        ⟨(some 24), .move (.t 0), some (some 23, true)⟩,
        ⟨(some 25), .len (.t 24), some (some 23, true)⟩,
        ⟨(some 26), .bin .geq (.t 25) (.c (.int .i64 2)), some (some 23, true)⟩,
        ⟨(some 27), .pick (.t 23) (.t 26) (.c (.bool false)), none⟩,
        ⟨(some 19), .move (.t 27), none⟩])
      (.cond (.t 19)
        (.seq
        (.region [
          ⟨(some 28), .move (.t 0), none⟩,
          ⟨(some 29), .indexAddr 1 (.t 28) (.c (.int .i64 1)), none⟩,
          ⟨(some 30), .load false 1 (.t 29), none⟩,
          ⟨(some 31), .conv .i64 (.t 30), none⟩,
          ⟨(some 32), .fieldAddr 1 (.t 4), none⟩,
          ⟨none, .store 1 (.t 32) (.t 31), none⟩])
        (.seq
        (.region [
          ⟨(some 33), .load true 3 (.t 4), none⟩,
          ⟨none, .store 3 (.t 2) (.t 33), none⟩,
          ⟨(some 3), .move (.c (.int .i64 2)), none⟩])
        .ret))
        (.seq
        (.region [
          ⟨(some 35), .fieldAddr 0 (.t 4), none⟩,
          ⟨(some 36), .load false 1 (.t 35), none⟩,
          ⟨(some 37), .bin .eql (.t 36) (.c (.int .i64 2)), none⟩,
          ⟨(some 38), .move (.t 37), none⟩,
          ⟨(some 39), .move (.t 0), some (some 38, true)⟩,
          ⟨(some 40), .len (.t 39), some (some 38, true)⟩,
          ⟨(some 41), .bin .geq (.t 40) (.c (.int .i64 5)), some (some 38, true)⟩,
          ⟨(some 42), .pick (.t 38) (.t 41) (.c (.bool false)), none⟩,
          ⟨(some 34), .move (.t 42), none⟩])
        (.cond (.t 34)
          (.seq
          (.region [
            ⟨(some 43), .move (.t 0), none⟩,
            ⟨(some 44), .slice 1 (.t 43) (some (.c (.int .i64 1))) (some (.c (.int .i64 5))), none⟩,
            ⟨(some 45), .call f_value_number [(.t 44)], none⟩,
            ⟨(some 46), .bin .sub (.t 45) (.c (.int .i64 1073741824)), none⟩,
            ⟨(some 47), .fieldAddr 1 (.t 4), none⟩,
            ⟨none, .store 1 (.t 47) (.t 46), none⟩])
          (.seq
          (.region [
            ⟨(some 48), .load true 3 (.t 4), none⟩,
            ⟨none, .store 3 (.t 2) (.t 48), none⟩,
            ⟨(some 3), .move (.c (.int .i64 5)), none⟩])
          .ret))
          (.seq
          (.region [
            ⟨(some 50), .fieldAddr 0 (.t 4), none⟩,
            ⟨(some 51), .load false 1 (.t 50), none⟩,
            ⟨(some 52), .bin .eql (.t 51) (.c (.int .i64 4)), none⟩,
            ⟨(some 53), .move (.t 52), none⟩,
            ⟨(some 54), .move (.t 0), some (some 53, true)⟩,
            ⟨(some 55), .len (.t 54), some (some 53, true)⟩,
            ⟨(some 56), .bin .geq (.t 55) (.c (.int .i64 5)), some (some 53, true)⟩,
            ⟨(some 57), .pick (.t 53) (.t 56) (.c (.bool false)), none⟩,
            ⟨(some 49), .move (.t 57), none⟩])
          (.cond (.t 49)
            (.seq
            (.region [
              ⟨(some 58), .move (.t 0), none⟩,
              ⟨(some 59), .slice 1 (.t 58) (some (.c (.int .i64 1))) (some (.c (.int .i64 5))), none⟩,
              ⟨(some 60), .call f_value_number [(.t 59)], none⟩,
              ⟨(some 61), .fieldAddr 1 (.t 4), none⟩,
              ⟨none, .store 1 (.t 61) (.t 60), none⟩])
            (.seq
            (.region [
              ⟨(some 62), .load true 3 (.t 4), none⟩,
              ⟨none, .store 3 (.t 2) (.t 62), none⟩,
              ⟨(some 3), .move (.c (.int .i64 5)), none⟩])
            .ret))
            (.seq
            (.region [
              ⟨(some 64), .fieldAddr 0 (.t 4), none⟩,
              ⟨(some 65), .load false 1 (.t 64), none⟩,
              ⟨(some 66), .bin .eql (.t 65) (.c (.int .i64 3)), none⟩,
              ⟨(some 67), .move (.t 66), none⟩,
              ⟨(some 68), .move (.t 0), some (some 67, true)⟩,
              ⟨(some 69), .len (.t 68), some (some 67, true)⟩,
              ⟨(some 70), .bin .geq (.t 69) (.c (.int .i64 2)), some (some 67, true)⟩,
              ⟨(some 71), .pick (.t 67) (.t 70) (.c (.bool false)), none⟩,
              ⟨(some 72), .move (.t 71), none⟩,
              ⟨(some 73), .move (.t 0), some (some 72, true)⟩,
              ⟨(some 74), .len (.t 73), some (some 72, true)⟩,
              ⟨(some 75), .move (.t 0), some (some 72, true)⟩,
              ⟨(some 76), .indexAddr 1 (.t 75) (.c (.int .i64 1)), some (some 72, true)⟩,
              ⟨(some 77), .load false 1 (.t 76), some (some 72, true)⟩,
              ⟨(some 78), .conv .i64 (.t 77), some (some 72, true)⟩,
              ⟨(some 79), .bin .add (.c (.int .i64 2)) (.t 78), some (some 72, true)⟩,
              ⟨(some 80), .bin .geq (.t 74) (.t 79), some (some 72, true)⟩,
              ⟨(some 81), .pick (.t 72) (.t 80) (.c (.bool false)), none⟩,
              ⟨(some 63), .move (.t 81), none⟩])
            (.cond (.t 63)
              (.seq
              (.region [
                ⟨(some 82), .move (.t 0), none⟩,
                ⟨(some 83), .move (.t 0), none⟩,
                ⟨(some 84), .indexAddr 1 (.t 83) (.c (.int .i64 1)), none⟩,
                ⟨(some 85), .load false 1 (.t 84), none⟩,
                ⟨(some 86), .conv .i64 (.t 85), none⟩,
                ⟨(some 87), .bin .add (.c (.int .i64 2)) (.t 86), none⟩,
                ⟨(some 88), .slice 1 (.t 82) (some (.c (.int .i64 2))) (some (.t 87)), none⟩,
                ⟨(some 89), .convBS (.t 88), none⟩,
                ⟨(some 90), .fieldAddr 2 (.t 4), none⟩,
                ⟨none, .store 1 (.t 90) (.t 89), none⟩])
              (.seq
              (.draw [
                (⟨(some 91), .load true 3 (.t 4), none⟩, []),
                (⟨(some 92), .move (.t 0), none⟩, []),
                (⟨(some 93), .indexAddr 1 (.t 92) (.c (.int .i64 1)), none⟩, [1]),
                (⟨(some 94), .load false 1 (.t 93), none⟩, [1]),
                (⟨(some 95), .conv .i64 (.t 94), none⟩, []),
                (⟨(some 96), .bin .add (.c (.int .i64 2)) (.t 95), none⟩, []),
                (⟨none, .store 3 (.t 2) (.t 91), none⟩, []),
                (⟨(some 3), .move (.t 96), none⟩, [])])
              .ret))
              .skip)))))))))))
  (.seq
  (.region [
    ⟨(some 97), .build [(.int .i64 0), (.int .i64 0), (.str (bs []))] [], none⟩,
    ⟨none, .store 3 (.t 2) (.t 97), none⟩,
    ⟨(some 3), .move (.c (.int .i64 0)), none⟩])
  .ret)))))⟩

structure F_value_decode (P : Program) where
  id : FuncId
  value_number : F_value_number P
  has : Has P id [] (c_value_decode value_number.id)

def c_value_Decode (f_value_decode : FuncId) (f_value_Valid : FuncId) : AFunc := ⟨50, [.tmp 2, .tmp 3],
  (.seq
  (.region [
    ⟨(some 2), .move (.c .nil), none⟩,
    ⟨(some 3), .move (.c (.int .i64 0)), none⟩])
  (.seq
  (.seq
  (.region [
    ⟨(some 8), .move (.t 0), none⟩,
    ⟨(some 9), .len (.t 8), none⟩,
    ⟨(some 10), .bin .eql (.t 9) (.c (.int .i64 0)), none⟩,
    ⟨(some 11), .move (.t 10), none⟩,
    ⟨(some 12), .move (.t 0), some (some 11, false)⟩,
    ⟨(some 13), .indexAddr 1 (.t 12) (.c (.int .i64 0)), some (some 11, false)⟩,
    ⟨(some 14), .load false 1 (.t 13), some (some 11, false)⟩,
    ⟨(some 15), .bin .gtr (.t 14) (.c (.int .u8 12)), some (some 11, false)⟩,
    ⟨(some 16), .pick (.t 11) (.c (.bool true)) (.t 15), none⟩])
  (.cond (.t 16)
    (.seq
    (.region [
      ⟨(some 2), .move (.c .nil), none⟩,
      ⟨(some 3), .move (.c (.int .i64 11)), none⟩])
    .ret)
    .skip))
  (.seq
  (.region [
    ⟨(some 17), .move (.t 0), none⟩,
    ⟨(some 18), .indexAddr 1 (.t 17) (.c (.int .i64 0)), none⟩,
    ⟨(some 19), .load false 1 (.t 18), none⟩,
    ⟨(some 20), .conv .i64 (.t 19), none⟩,
    ⟨(some 4), .move (.t 20), none⟩])
  (.seq
  (.region [
    ⟨(some 21), .move (.t 0), none⟩,
    ⟨(some 22), .slice 1 (.t 21) (some (.c (.int .i64 1))) none, none⟩,
    ⟨(some 0), .move (.t 22), none⟩])
  (.seq
  (.region [
    ⟨(some 5), .move (.c .nil), none⟩])
  (.seq
  (.seq
  (.region [
    ⟨(some 23), .move (.t 4), none⟩,
    ⟨(some 24), .move (.c (.int .i64 0)), none⟩])
  (.block 0
    (.loop
      (.seq
      (.region [
        ⟨(some 25), .bin .lss (.t 24) (.t 23), none⟩])
      (.seq
      (.cond (.t 25)
        .skip
        (.exit 0))
      (.seq
      (.block 1
        (.seq
        (.region [
          ⟨(some 27), .move (.t 0), none⟩,
          ⟨(some 28), .call f_value_decode [(.t 27)], none⟩,
          ⟨(some 26), .move (.t 28), none⟩,
          ⟨(some 29), .extract (.t 26) 0, none⟩,
          ⟨(some 30), .extract (.t 26) 1, none⟩,
          ⟨(some 6), .alloc [(.int .i64 0), (.int .i64 0), (.str (bs []))], none⟩,
          ⟨none, .store 3 (.t 6) (.t 29), none⟩,
          ⟨(some 7), .move (.t 30), none⟩])
        (.seq
        (.seq
        (.region [
          ⟨(some 31), .move (.t 7), none⟩,
          ⟨(some 32), .bin .eql (.t 31) (.c (.int .i64 0)), none⟩,
          ⟨(some 33), .move (.t 32), none⟩,
          ⟨(some 34), .load true 3 (.t 6), some (some 33, false)⟩,
          ⟨(some 35), .call f_value_Valid [(.t 34)], some (some 33, false)⟩,
          ⟨(some 36), .un .not (.t 35), some (some 33, false)⟩,
          ⟨(some 37), .pick (.t 33) (.c (.bool true)) (.t 36), none⟩])
        (.cond (.t 37)
          (.seq
          (.region [
            ⟨(some 2), .move (.c .nil), none⟩,
            ⟨(some 3), .move (.c (.int .i64 11)), none⟩])
          .ret)
          .skip))
        (.draw [
          (⟨(some 38), .move (.t 5), none⟩, []),
          (⟨(some 39), .load true 3 (.t 6), none⟩, []),
          (⟨(some 40), .buildSlice 3 1 [(.int .i64 0), (.int .i64 0), (.str (bs []))] [(0, (.t 39))], none⟩, []),
          (⟨(some 41), .append 3 32 [(.int .i64 0), (.int .i64 0), (.str (bs []))] (.t 38) (.t 40), none⟩, []),
          (⟨(some 42), .move (.t 0), none⟩, []),
          (⟨(some 43), .move (.t 7), none⟩, []),
          (⟨(some 44), .slice 1 (.t 42) (some (.t 43)) none, none⟩, [9]),
          (⟨(some 5), .move (.t 41), none⟩, []),
          (⟨(some 0), .move (.t 44), none⟩, [])]))))
      (.region [
        ⟨(some 45), .bin .add (.t 24) (.c (.int .i64 1)), none⟩,
        ⟨(some 24), .move (.t 45), none⟩])))))))
  (.seq
  (.seq
  (.region [
    ⟨(some 46), .move (.t 0), none⟩,
    ⟨(some 47), .len (.t 46), none⟩,
    ⟨(some 48), .bin .gtr (.t 47) (.c (.int .i64 0)), none⟩])
  (.cond (.t 48)
    (.seq
    (.region [
      ⟨(some 2), .move (.c .nil), none⟩,
      ⟨(some 3), .move (.c (.int .i64 11)), none⟩])
    .ret)
    .skip))
  (.seq
  (.region [
    ⟨(some 49), .move (.t 5), none⟩,
    ⟨(some 2), .move (.t 49), none⟩,
    ⟨(some 3), .move (.c (.int .i64 0)), none⟩])
  .ret))))))))⟩

structure F_value_Decode (P : Program) where
  id : FuncId
  value_decode : F_value_decode P
  value_Valid : F_value_Valid P
  has : Has P id [] (c_value_Decode value_decode.id value_Valid.id)

def c_warehouseref1_number : AFunc := ⟨25, [.tmp 2],
  (.seq
  (.region [
    ⟨(some 2), .move (.c (.int .i64 0)), none⟩])
  (.seq
  (.draw [
    (⟨(some 3), .move (.t 0), none⟩, []),
    (⟨(some 4), .indexAddr 1 (.t 3) (.c (.int .i64 0)), none⟩, []),
    (⟨(some 5), .load false 1 (.t 4), none⟩, []),
    (⟨(some 6), .conv .i64 (.t 5), none⟩, []),
    (⟨(some 7), .bin .shl (.t 6) (.c (.int .u64 24)), none⟩, []),
    (⟨(some 8), .move (.t 0), none⟩, []),
    (⟨(some 9), .indexAddr 1 (.t 8) (.c (.int .i64 1)), none⟩, []),
    (⟨(some 10), .load false 1 (.t 9), none⟩, []),
    (⟨(some 11), .conv .i64 (.t 10), none⟩, []),
    (⟨(some 12), .bin .shl (.t 11) (.c (.int .u64 16)), none⟩, []),
    (⟨(some 13), .bin .or (.t 7) (.t 12), none⟩, []),
    (⟨(some 14), .move (.t 0), none⟩, []),
    (⟨(some 15), .indexAddr 1 (.t 14) (.c (.int .i64 2)), none⟩, []),
    (⟨(some 16), .load false 1 (.t 15), none⟩, []),
    (⟨(some 17), .conv .i64 (.t 16), none⟩, []),
    (⟨(some 18), .bin .shl (.t 17) (.c (.int .u64 8)), none⟩, []),
    (⟨(some 19), .bin .or (.t 13) (.t 18), none⟩, []),
    (⟨(some 20), .move (.t 0), none⟩, []),
    (⟨(some 21), .indexAddr 1 (.t 20) (.c (.int .i64 3)), none⟩, []),
    (⟨(some 22), .load false 1 (.t 21), none⟩, []),
    (⟨(some 23), .conv .i64 (.t 22), none⟩, []),
    (⟨(some 24), .bin .or (.t 19) (.t 23), none⟩, []),
    (⟨(some 2), .move (.t 24), none⟩, [])])
  .ret))⟩

structure F_warehouseref1_number (P : Program) where
  id : FuncId
  has : Has P id [] c_warehouseref1_number

def c_warehouseref1_decode (f_warehouseref1_number : FuncId) : AFunc := ⟨98, [.cell true 3 2, .tmp 3],
  (.seq
  (.region [
    ⟨(some 2), .alloc [(.int .i64 0), (.int .i64 0), (.str (bs []))], none⟩,
    ⟨(some 3), .move (.c (.int .i64 0)), none⟩])
  (.seq
  (.seq
  (.region [
    ⟨(some 5), .move (.t 0), none⟩,
    ⟨(some 6), .len (.t 5), none⟩,
    ⟨(some 7), .bin .eql (.t 6) (.c (.int .i64 0)), none⟩])
  (.cond (.t 7)
    (.seq
    (.region [
      ⟨(some 8), .build [(.int .i64 0), (.int .i64 0), (.str (bs []))] [], none⟩,
      ⟨none, .store 3 (.t 2) (.t 8), none⟩,
      ⟨(some 3), .move (.c (.int .i64 0)), none⟩])
    .ret)
    .skip))
  (.seq
  (.region [
    ⟨(some 9), .move (.t 0), none⟩,
    ⟨(some 10), .indexAddr 1 (.t 9) (.c (.int .i64 0)), none⟩,
    ⟨(some 11), .load false 1 (.t 10), none⟩,
    ⟨(some 12), .conv .i64 (.t 11), none⟩,
    ⟨(some 13), .build [(.int .i64 0), (.int .i64 0), (.str (bs []))] [(0, 1, (.t 12))], none⟩,
    ⟨(some 4), .alloc [(.int .i64 0), (.int .i64 0), (.str (bs []))], none⟩,
    ⟨none, .store 3 (.t 4) (.t 13), none⟩])
  (.seq
  (.block 0
    (.seq
    (.region [
      ⟨(some 15), .fieldAddr 0 (.t 4), none⟩,
      ⟨(some 16), .load false 1 (.t 15), none⟩,
      ⟨(some 17), .bin .eql (.t 16) (.c (.int .i64 0)), none⟩,
      ⟨(some 14), .move (.t 17), none⟩])
    (.cond (.t 14)
      (.seq
      (.region [
        ⟨(some 18), .load true 3 (.t 4), none⟩,
        ⟨none, .store 3 (.t 2) (.t 18), none⟩,
        ⟨(some 3), .move (.c (.int .i64 1)), none⟩])
      .ret)
      (.seq
      (.region [
        ⟨(some 20), .fieldAddr 0 (.t 4), none⟩,
        ⟨(some 21), .load false 1 (.t 20), none⟩,
        ⟨(some 22), .bin .eql (.t 21) (.c (.int .i64 1)), none⟩,
        ⟨(some 23), .move (.t 22), none⟩,
        ⟨(some 24), .move (.t 0), some (some 23, true)⟩,
        ⟨(some 25), .len (.t 24), some (some 23, true)⟩,
        ⟨(some 26), .bin .geq (.t 25) (.c (.int .i64 2)), some (some 23, true)⟩,
        ⟨(some 27), .pick (.t 23) (.t 26) (.c (.bool false)), none⟩,
        ⟨(some 19), .move (.t 27), none⟩])
      (.cond (.t 19)
        (.seq
        (.region [
          ⟨(some 28), .move (.t 0), none⟩,
          ⟨(some 29), .indexAddr 1 (.t 28) (.c (.int .i64 1)), none⟩,
          ⟨(some 30), .load false 1 (.t 29), none⟩,
          ⟨(some 31), .conv .i64 (.t 30), none⟩,
          ⟨(some 32), .fieldAddr 1 (.t 4), none⟩,
          ⟨none, .store 1 (.t 32) (.t 31), none⟩])
        (.seq
        (.region [
          ⟨(some 33), .load true 3 (.t 4), none⟩,
          ⟨none, .store 3 (.t 2) (.t 33), none⟩,
          ⟨(some 3), .move (.c (.int .i64 2)), none⟩])
        .ret))
        (.seq
        (.region [
          ⟨(some 35), .fieldAddr 0 (.t 4), none⟩,
          ⟨(some 36), .load false 1 (.t 35), none⟩,
          ⟨(some 37), .bin .eql (.t 36) (.c (.int .i64 2)), none⟩,
          ⟨(some 38), .move (.t 37), none⟩,
          ⟨(some 39), .move (.t 0), some (some 38, true)⟩,
          ⟨(some 40), .len (.t 39), some (some 38, true)⟩,
          ⟨(some 41), .bin .geq (.t 40) (.c (.int .i64 5)), some (some 38, true)⟩,
          ⟨(some 42), .pick (.t 38) (.t 41) (.c (.bool false)), none⟩,
          ⟨(some 34), .move (.t 42), none⟩])
        (.cond (.t 34)
          (.seq
          (.region [
            ⟨(some 43), .move (.t 0), none⟩,
            ⟨(some 44), .slice 1 (.t 43) (some (.c (.int .i64 1))) none, none⟩,
            ⟨(some 45), .call f_warehouseref1_number [(.t 44)], none⟩,
            ⟨(some 46), .bin .sub (.t 45) (.c (.int .i64 1073741824)), none⟩,
            ⟨(some 47), .fieldAddr 1 (.t 4), none⟩,
            ⟨none, .store 1 (.t 47) (.t 46), none⟩])
          (.seq
          (.region [
            ⟨(some 48), .load true 3 (.t 4), none⟩,
            ⟨none, .store 3 (.t 2) (.t 48), none⟩,
            ⟨(some 3), .move (.c (.int .i64 5)), none⟩])
          .ret))
          (.seq
          (.region [
            ⟨(some 50), .fieldAddr 0 (.t 4), none⟩,
            ⟨(some 51), .load false 1 (.t 50), none⟩,
            ⟨(some 52), .bin .eql (.t 51) (.c (.int .i64 3)), none⟩,
            ⟨(some 53), .move (.t 52), none⟩,
            ⟨(some 54), .move (.t 0), some (some 53, true)⟩,
            ⟨(some 55), .len (.t 54), some (some 53, true)⟩,
            ⟨(some 56), .bin .geq (.t 55) (.c (.int .i64 2)), some (some 53, true)⟩,
            ⟨(some 57), .pick (.t 53) (.t 56) (.c (.bool false)), none⟩,
            ⟨(some 58), .move (.t 57), none⟩,
            ⟨(some 59), .move (.t 0), some (some 58, true)⟩,
            ⟨(some 60), .len (.t 59), some (some 58, true)⟩,
            ⟨(some 61), .move (.t 0), some (some 58, true)⟩,
            ⟨(some 62), .indexAddr 1 (.t 61) (.c (.int .i64 1)), some (some 58, true)⟩,
            ⟨(some 63), .load false 1 (.t 62), some (some 58, true)⟩,
            ⟨(some 64), .conv .i64 (.t 63), some (some 58, true)⟩,
            ⟨(some 65), .bin .add (.c (.int .i64 2)) (.t 64), some (some 58, true)⟩,
            ⟨(some 66), .bin .geq (.t 60) (.t 65), some (some 58, true)⟩,
            ⟨(some 67), .pick (.t 58) (.t 66) (.c (.bool false)), none⟩,
            ⟨(some 49), .move (.t 67), none⟩])
          (.cond (.t 49)
            (.seq
            (.region [
              ⟨(some 68), .move (.t 0), none⟩,
              ⟨(some 69), .move (.t 0), none⟩,
              ⟨(some 70), .indexAddr 1 (.t 69) (.c (.int .i64 1)), none⟩,
              ⟨(some 71), .load false 1 (.t 70), none⟩,
              ⟨(some 72), .conv .i64 (.t 71), none⟩,
              ⟨(some 73), .bin .add (.c (.int .i64 2)) (.t 72), none⟩,
              ⟨(some 74), .slice 1 (.t 68) (some (.c (.int .i64 2))) (some (.t 73)), none⟩,
              ⟨(some 75), .convBS (.t 74), none⟩,
              ⟨(some 76), .fieldAddr 2 (.t 4), none⟩,
              ⟨none, .store 1 (.t 76) (.t 75), none⟩])
            (.seq
            (.draw [
              (⟨(some 77), .load true 3 (.t 4), none⟩, []),
              (⟨(some 78), .move (.t 0), none⟩, []),
              (⟨(some 79), .indexAddr 1 (.t 78) (.c (.int .i64 1)), none⟩, [1]),
              (⟨(some 80), .load false 1 (.t 79), none⟩, [1]),
              (⟨(some 81), .conv .i64 (.t 80), none⟩, []),
              (⟨(some 82), .bin .add (.c (.int .i64 2)) (.t 81), none⟩, []),
              (⟨none, .store 3 (.t 2) (.t 77), none⟩, []),
              (⟨(some 3), .move (.t 82), none⟩, [])])
            .ret))
            (.seq
            (.region [
              ⟨(some 84), .fieldAddr 0 (.t 4), none⟩,
              ⟨(some 85), .load false 1 (.t 84), none⟩,
              ⟨(some 86), .bin .eql (.t 85) (.c (.int .i64 4)), none⟩,
              ⟨(some 87), .move (.t 86), none⟩,
              ⟨(some 88), .move (.t 0), some (some 87, true)⟩,
              ⟨(some 89), .len (.t 88), some (some 87, true)⟩,
              ⟨(some 90), .bin .geq (.t 89) (.c (.int .i64 5)), some (some 87, true)⟩,
              ⟨(some 91), .pick (.t 87) (.t 90) (.c (.bool false)), none⟩,
              ⟨(some 83), .move (.t 91), none⟩])
            (.cond (.t 83)
              (.seq
              (.region [
                ⟨(some 92), .move (.t 0), none⟩,
                ⟨(some 93), .slice 1 (.t 92) (some (.c (.int .i64 1))) none, none⟩,
                ⟨(some 94), .call f_warehouseref1_number [(.t 93)], none⟩,
                ⟨(some 95), .fieldAddr 1 (.t 4), none⟩,
                ⟨none, .store 1 (.t 95) (.t 94), none⟩])
              (.seq
              (.region [
                ⟨(some 96), .load true 3 (.t 4), none⟩,
                ⟨none, .store 3 (.t 2) (.t 96), none⟩,
                ⟨(some 3), .move (.c (.int .i64 5)), none⟩])
              .ret))
              .skip)))))))))))
  (.seq
  (.region [
    ⟨(some 97), .build [(.int .i64 0), (.int .i64 0), (.str (bs []))] [], none⟩,
    ⟨none, .store 3 (.t 2) (.t 97), none⟩,
    ⟨(some 3), .move (.c (.int .i64 0)), none⟩])
  .ret)))))⟩

structure F_warehouseref1_decode (P : Program) where
  id : FuncId
  warehouseref1_number : F_warehouseref1_number P
  has : Has P id [] (c_warehouseref1_decode warehouseref1_number.id)

def c_warehouseref1_Decode (f_warehouseref1_decode : FuncId) (f_warehouseref1_Valid : FuncId) : AFunc := ⟨53, [.tmp 2, .tmp 3],
  (.seq
  (.region [
    ⟨(some 2), .move (.c .nil), none⟩,
    ⟨(some 3), .move (.c (.int .i64 0)), none⟩])
  (.seq
  (.seq
  (.region [
    ⟨(some 9), .move (.t 0), none⟩,
    ⟨(some 10), .len (.t 9), none⟩,
    ⟨(some 11), .bin .eql (.t 10) (.c (.int .i64 0)), none⟩,
    ⟨(some 12), .move (.t 11), none⟩,
    ⟨(some 13), .move (.t 0), some (some 12, false)⟩,
    ⟨(some 14), .indexAddr 1 (.t 13) (.c (.int .i64 0)), some (some 12, false)⟩,
    ⟨(some 15), .load false 1 (.t 14), some (some 12, false)⟩,
    ⟨(some 16), .conv .i64 (.t 15), some (some 12, false)⟩,
    ⟨(some 17), .bin .gtr (.t 16) (.c (.int .i64 12)), some (some 12, false)⟩,
    ⟨(some 18), .pick (.t 12) (.c (.bool true)) (.t 17), none⟩])
  (.cond (.t 18)
    (.seq
    (.region [
      ⟨(some 2), .move (.c .nil), none⟩,
      ⟨(some 3), .move (.c (.int .i64 11)), none⟩])
    .ret)
    .skip))
  (.seq
  (.region [
    ⟨(some 4), .move (.c .nil), none⟩])
  (.seq
  (.region [
    ⟨(some 5), .move (.c (.int .i64 1)), none⟩])
  (.seq
  (.seq
  (.region [
    ⟨(some 6), .move (.c (.int .i64 0)), none⟩])
  (.block 0
    (.loop
      (.seq
      (.seq
      (.region [
        ⟨(some 19), .move (.t 6), none⟩,
        ⟨(some 20), .move (.t 0), none⟩,
        ⟨(some 21), .indexAddr 1 (.t 20) (.c (.int .i64 0)), none⟩,
        ⟨(some 22), .load false 1 (.t 21), none⟩,
        ⟨(some 23), .conv .i64 (.t 22), none⟩,
        ⟨(some 24), .bin .lss (.t 19) (.t 23), none⟩])
      (.cond (.t 24)
        .skip
        (.exit 0)))
      (.seq
      (.block 1
        (.seq
        (.region [
          ⟨(some 28), .move (.t 0), none⟩,
          ⟨(some 29), .move (.t 5), none⟩,
          ⟨(some 30), .slice 1 (.t 28) (some (.t 29)) none, none⟩,
          ⟨(some 31), .call f_warehouseref1_decode [(.t 30)], none⟩,
          ⟨(some 27), .move (.t 31), none⟩,
          ⟨(some 32), .extract (.t 27) 0, none⟩,
          ⟨(some 33), .extract (.t 27) 1, none⟩,
          ⟨(some 7), .alloc [(.int .i64 0), (.int .i64 0), (.str (bs []))], none⟩,
          ⟨none, .store 3 (.t 7) (.t 32), none⟩,
          ⟨(some 8), .move (.t 33), none⟩])
        (.seq
        (.seq
        (.region [
          ⟨(some 34), .move (.t 8), none⟩,
          ⟨(some 35), .bin .eql (.t 34) (.c (.int .i64 0)), none⟩,
          ⟨(some 36), .move (.t 35), none⟩,
          ⟨(some 37), .load true 3 (.t 7), some (some 36, false)⟩,
          ⟨(some 38), .call f_warehouseref1_Valid [(.t 37)], some (some 36, false)⟩,
          ⟨(some 39), .un .not (.t 38), some (some 36, false)⟩,
          ⟨(some 40), .pick (.t 36) (.c (.bool true)) (.t 39), none⟩])
        (.cond (.t 40)
          (.seq
          (.region [
            ⟨(some 2), .move (.c .nil), none⟩,
            ⟨(some 3), .move (.c (.int .i64 11)), none⟩])
          .ret)
          .skip))
        (.seq
        (.region [
          ⟨(some 41), .move (.t 4), none⟩,
          ⟨(some 42), .load true 3 (.t 7), none⟩,
          ⟨(some 43), .buildSlice 3 1 [(.int .i64 0), (.int .i64 0), (.str (bs []))] [(0, (.t 42))], none⟩,
          ⟨(some 44), .append 3 32 [(.int .i64 0), (.int .i64 0), (.str (bs []))] (.t 41) (.t 43), none⟩,
          ⟨(some 4), .move (.t 44), none⟩])
        (.region [
          ⟨(some 45), .move (.t 5), none⟩,
          ⟨(some 46), .move (.t 8), none⟩,
          ⟨(some 47), .bin .add (.t 45) (.t 46), none⟩,
          ⟨(some 5), .move (.t 47), none⟩])))))
      (.region [
        ⟨(some 25), .move (.t 6), none⟩,
        ⟨(some 26), .bin .add (.t 25) (.c (.int .i64 1)), none⟩,
        ⟨(some 6), .move (.t 26), none⟩]))))))
  (.seq
  (.seq
  (.region [
    ⟨(some 48), .move (.t 5), none⟩,
    ⟨(some 49), .move (.t 0), none⟩,
    ⟨(some 50), .len (.t 49), none⟩,
    ⟨(some 51), .bin .neq (.t 48) (.t 50), none⟩])
  (.cond (.t 51)
    (.seq
    (.region [
      ⟨(some 2), .move (.c .nil), none⟩,
      ⟨(some 3), .move (.c (.int .i64 11)), none⟩])
    .ret)
    .skip))
  (.seq
  (.region [
    ⟨(some 52), .move (.t 4), none⟩,
    ⟨(some 2), .move (.t 52), none⟩,
    ⟨(some 3), .move (.c (.int .i64 0)), none⟩])
  .ret)))))))⟩

structure F_warehouseref1_Decode (P : Program) where
  id : FuncId
  warehouseref1_decode : F_warehouseref1_decode P
  warehouseref1_Valid : F_warehouseref1_Valid P
  has : Has P id [] (c_warehouseref1_Decode warehouseref1_decode.id warehouseref1_Valid.id)

def c_schema_IsName : AFunc := ⟨41, [.tmp 2],
  (.seq
  (.region [
    ⟨(some 2), .move (.c (.bool false)), none⟩])
  (.seq
  (.seq
  (.region [
    ⟨(some 6), .move (.t 0), none⟩,
    ⟨(some 7), .lenS (.t 6), none⟩,
    ⟨(some 8), .bin .gtr (.t 7) (.c (.int .i64 24)), none⟩])
  (.cond (.t 8)
    (.seq
    (.region [
      ⟨(some 2), .move (.c (.bool false)), none⟩])
    .ret)
    .skip))
  (.seq
  (.seq
  (.region [
    ⟨(some 9), .move (.t 0), none⟩,
    ⟨(some 10), .range (.t 9), none⟩])
  (.block 0
    (.loop
      (.seq
      (.region [
        ⟨(some 11), .next (.t 10), none⟩,
        ⟨(some 12), .extract (.t 11) 0, none⟩])
      (.seq
      (.cond (.t 12)
        .skip
        (.exit 0))
      (.block 1
        (.seq
        (.region [
          ⟨(some 13), .extract (.t 11) 1, none⟩,
          ⟨(some 14), .extract (.t 11) 2, none⟩,
          ⟨(some 3), .move (.t 13), none⟩,
          ⟨(some 4), .move (.t 14), none⟩])
        (.seq
        (.region [
          ⟨(some 15), .move (.t 4), none⟩,
          ⟨(some 16), .bin .geq (.t 15) (.c (.int .i32 97)), none⟩,
          ⟨(some 17), .move (.t 16), none⟩,
          ⟨(some 18), .move (.t 4), some (some 17, true)⟩,
          ⟨(some 19), .bin .leq (.t 18) (.c (.int .i32 122)), some (some 17, true)⟩,
          ⟨(some 20), .pick (.t 17) (.t 19) (.c (.bool false)), none⟩,
          ⟨(some 5), .move (.t 20), none⟩])
        (.seq
        (.region [
          ⟨(some 21), .move (.t 5), none⟩,
          ⟨(some 22), .un .not (.t 21), none⟩,
          ⟨(some 23), .move (.t 22), none⟩,
          ⟨(some 24), .move (.t 3), some (some 23, true)⟩,
          ⟨(some 25), .bin .eql (.t 24) (.c (.int .i64 0)), some (some 23, true)⟩,
          ⟨(some 26), .move (.t 25), some (some 23, true)⟩,
          ⟨(some 27), .move (.t 4), some (some 26, false)⟩,
          ⟨(some 28), .bin .neq (.t 27) (.c (.int .i32 95)), some (some 26, false)⟩,
          ⟨(some 29), .move (.t 28), some (some 26, false)⟩,
          ⟨(some 30), .move (.t 4), some (some 29, true)⟩,
          ⟨(some 31), .bin .lss (.t 30) (.c (.int .i32 48)), some (some 29, true)⟩,
          ⟨(some 32), .move (.t 31), some (some 29, true)⟩,
          ⟨(some 33), .move (.t 4), some (some 32, false)⟩,
          ⟨(some 34), .bin .gtr (.t 33) (.c (.int .i32 57)), some (some 32, false)⟩,
          ⟨(some 35), .pick (.t 32) (.c (.bool true)) (.t 34), some (some 29, true)⟩,
          ⟨(some 36), .pick (.t 29) (.t 35) (.c (.bool false)), some (some 26, false)⟩,
          ⟨(some 37), .pick (.t 26) (.c (.bool true)) (.t 36), some (some 23, true)⟩,
          ⟨(some 38), .pick (.t 23) (.t 37) (.c (.bool false)), none⟩])
        (.cond (.t 38)
          (.seq
          (.region [
            ⟨(some 2), .move (.c (.bool false)), none⟩])
          .ret)
          .skip))))))))))
  (.seq
  (.region [
    ⟨(some 39), .move (.t 0), none⟩,
    ⟨(some 40), .bin .neq (.t 39) (.c (.str (bs []))), none⟩,
    ⟨(some 2), .move (.t 40), none⟩])
  .ret))))⟩

structure F_schema_IsName (P : Program) where
  id : FuncId
  has : Has P id [] c_schema_IsName

structure F_bytealg_IndexByteString (P : Program) where
  id : FuncId
  has : HasX P id Extern.BytealgIndexByte.indexByte

def c_stringslite_IndexByte (f_bytealg_IndexByteString : FuncId) : AFunc := ⟨8, [.tmp 4],
  (.seq
  (.region [
    ⟨(some 4), .move (.c (.int .i64 0)), none⟩])
  (.seq
  (.region [
    ⟨(some 5), .move (.t 0), none⟩,
    ⟨(some 6), .move (.t 1), none⟩,
    ⟨(some 7), .call f_bytealg_IndexByteString [(.t 5), (.t 6)], none⟩,
    ⟨(some 4), .move (.t 7), none⟩])
  .ret))⟩

structure F_stringslite_IndexByte (P : Program) where
  id : FuncId
  bytealg_IndexByteString : F_bytealg_IndexByteString P
  has : Has P id [] (c_stringslite_IndexByte bytealg_IndexByteString.id)

def c_bytealg_hashStr_string : AFunc := ⟨39, [.tmp 2, .tmp 3],
  (.seq
  (.region [
    ⟨(some 2), .move (.c (.int .u32 0)), none⟩,
    ⟨(some 3), .move (.c (.int .u32 0)), none⟩])
  (.seq
  (.region [
    ⟨(some 4), .move (.c (.int .u32 0)), none⟩])
  (.seq
  (.seq
  (.region [
    ⟨(some 5), .move (.c (.int .i64 0)), none⟩])
  (.block 0
    (.loop
      (.seq
      (.seq
      (.region [
        ⟨(some 9), .move (.t 5), none⟩,
        ⟨(some 10), .move (.t 0), none⟩,
        ⟨(some 11), .lenS (.t 10), none⟩,
        ⟨(some 12), .bin .lss (.t 9) (.t 11), none⟩])
      (.cond (.t 12)
        .skip
        (.exit 0)))
      (.seq
      (.block 1
        (.region [
          ⟨(some 15), .move (.t 4), none⟩,
          ⟨(some 16), .bin .mul (.t 15) (.c (.int .u32 16777619)), none⟩,
          ⟨(some 17), .move (.t 0), none⟩,
          ⟨(some 18), .move (.t 5), none⟩,
          ⟨(some 19), .indexStr (.t 17) (.t 18), none⟩,
          ⟨(some 20), .conv .u32 (.t 19), none⟩,
          ⟨(some 21), .bin .add (.t 16) (.t 20), none⟩,
          ⟨(some 4), .move (.t 21), none⟩]))
      (.region [
        ⟨(some 13), .move (.t 5), none⟩,
        ⟨(some 14), .bin .add (.t 13) (.c (.int .i64 1)), none⟩,
        ⟨(some 5), .move (.t 14), none⟩]))))))
  (.seq
  (.region [
    ⟨(some 6), .move (.c (.int .u32 1)), none⟩,
    ⟨(some 7), .move (.c (.int .u32 16777619)), none⟩])
  (.seq
  (.seq
  (.region [
    ⟨(some 22), .move (.t 0), none⟩,
    ⟨(some 23), .lenS (.t 22), none⟩,
    ⟨(some 8), .move (.t 23), none⟩])
  (.block 2
    (.loop
      (.seq
      (.seq
      (.region [
        ⟨(some 24), .move (.t 8), none⟩,
        ⟨(some 25), .bin .gtr (.t 24) (.c (.int .i64 0)), none⟩])
      (.cond (.t 25)
        .skip
        (.exit 2)))
      (.seq
      (.block 3
        (.seq
        (.seq
        (.region [
          ⟨(some 28), .move (.t 8), none⟩,
          ⟨(some 29), .bin .and (.t 28) (.c (.int .i64 1)), none⟩,
          ⟨(some 30), .bin .neq (.t 29) (.c (.int .i64 0)), none⟩])
        (.cond (.t 30)
          (.region [
            ⟨(some 31), .move (.t 6), none⟩,
            ⟨(some 32), .move (.t 7), none⟩,
            ⟨(some 33), .bin .mul (.t 31) (.t 32), none⟩,
            ⟨(some 6), .move (.t 33), none⟩])
          .skip))
        (.region [
          ⟨(some 34), .move (.t 7), none⟩,
          ⟨(some 35), .move (.t 7), none⟩,
          ⟨(some 36), .bin .mul (.t 34) (.t 35), none⟩,
          ⟨(some 7), .move (.t 36), none⟩])))
      (.region [
        ⟨(some 26), .move (.t 8), none⟩,
        ⟨(some 27), .bin .shr (.t 26) (.c (.int .u64 1)), none⟩,
        ⟨(some 8), .move (.t 27), none⟩]))))))
  (.seq
  (.region [
    ⟨(some 37), .move (.t 4), none⟩,
    ⟨(some 38), .move (.t 6), none⟩,
    ⟨(some 2), .move (.t 37), none⟩,
    ⟨(some 3), .move (.t 38), none⟩])
  .ret))))))⟩

structure F_bytealg_hashStr_string (P : Program) where
  id : FuncId
  has : Has P id [] c_bytealg_hashStr_string

def c_bytealg_IndexRabinKarp_string (f_bytealg_hashStr_string : FuncId) : AFunc := ⟨81, [.tmp 4],
  (.seq
  (.region [
    ⟨(some 4), .move (.c (.int .i64 0)), none⟩])
  (.seq
  (.region [
    ⟨(some 12), .move (.t 1), none⟩,
    ⟨(some 13), .call f_bytealg_hashStr_string [(.t 12)], none⟩,
    ⟨(some 11), .move (.t 13), none⟩,
    ⟨(some 14), .extract (.t 11) 0, none⟩,
    ⟨(some 15), .extract (.t 11) 1, none⟩,
    ⟨(some 5), .move (.t 14), none⟩,
    ⟨(some 6), .move (.t 15), none⟩])
  (.seq
  (.region [
    ⟨(some 16), .move (.t 1), none⟩,
    ⟨(some 17), .lenS (.t 16), none⟩,
    ⟨(some 7), .move (.t 17), none⟩])
  (.seq
  (.region [
    ⟨(some 8), .move (.c (.int .u32 0)), none⟩])
  (.seq
  (.seq
  (.region [
    ⟨(some 9), .move (.c (.int .i64 0)), none⟩])
  (.block 0
    (.loop
      (.seq
      (.seq
      (.region [
        ⟨(some 18), .move (.t 9), none⟩,
        ⟨(some 19), .move (.t 7), none⟩,
        ⟨(some 20), .bin .lss (.t 18) (.t 19), none⟩])
      (.cond (.t 20)
        .skip
        (.exit 0)))
      (.seq
      (.block 1
        (.region [
          ⟨(some 23), .move (.t 8), none⟩,
          ⟨(some 24), .bin .mul (.t 23) (.c (.int .u32 16777619)), none⟩,
          ⟨(some 25), .move (.t 0), none⟩,
          ⟨(some 26), .move (.t 9), none⟩,
          ⟨(some 27), .indexStr (.t 25) (.t 26), none⟩,
          ⟨(some 28), .conv .u32 (.t 27), none⟩,
          ⟨(some 29), .bin .add (.t 24) (.t 28), none⟩,
          ⟨(some 8), .move (.t 29), none⟩]))
      (.region [
        ⟨(some 21), .move (.t 9), none⟩,
        ⟨(some 22), .bin .add (.t 21) (.c (.int .i64 1)), none⟩,
        ⟨(some 9), .move (.t 22), none⟩]))))))
  (.seq
  (.seq
  (.region [
    ⟨(some 30), .move (.t 8), none⟩,
    ⟨(some 31), .move (.t 5), none⟩,
    ⟨(some 32), .bin .eql (.t 30) (.t 31), none⟩,
    ⟨(some 33), .move (.t 32), none⟩,
    ⟨(some 34), .move (.t 0), some (some 33, true)⟩,
    ⟨(some 35), .move (.t 7), some (some 33, true)⟩,
    ⟨(some 36), .sliceStr (.t 34) none (some (.t 35)), some (some 33, true)⟩,
    ⟨(some 37), .move (.t 1), some (some 33, true)⟩,
    ⟨(some 38), .bin .eql (.t 36) (.t 37), some (some 33, true)⟩,
    ⟨(some 39), .pick (.t 33) (.t 38) (.c (.bool false)), none⟩])
  (.cond (.t 39)
    (.seq
    (.region [
      ⟨(some 4), .move (.c (.int .i64 0)), none⟩])
    .ret)
    .skip))
  (.seq
  (.seq
  (.region [
    ⟨(some 40), .move (.t 7), none⟩,
    ⟨(some 10), .move (.t 40), none⟩])
  (.block 2
    (.loop
      (.seq
      (.seq
      (.region [
        ⟨(some 41), .move (.t 10), none⟩,
        ⟨(some 42), .move (.t 0), none⟩,
        ⟨(some 43), .lenS (.t 42), none⟩,
        ⟨(some 44), .bin .lss (.t 41) (.t 43), none⟩])
      (.cond (.t 44)
        .skip
        (.exit 2)))
      (.block 3
        (.seq
        (.region [
          ⟨(some 45), .move (.t 8), none⟩,
          ⟨(some 46), .bin .mul (.t 45) (.c (.int .u32 16777619)), none⟩,
          ⟨(some 8), .move (.t 46), none⟩])
        (.seq
        (.region [
          ⟨(some 47), .move (.t 8), none⟩,
          ⟨(some 48), .move (.t 0), none⟩,
          ⟨(some 49), .move (.t 10), none⟩,
          ⟨(some 50), .indexStr (.t 48) (.t 49), none⟩,
          ⟨(some 51), .conv .u32 (.t 50), none⟩,
          ⟨(some 52), .bin .add (.t 47) (.t 51), none⟩,
          ⟨(some 8), .move (.t 52), none⟩])
        (.seq
        (.region [
          ⟨(some 53), .move (.t 8), none⟩,
          ⟨(some 54), .move (.t 6), none⟩,
          ⟨(some 55), .move (.t 0), none⟩,
          ⟨(some 56), .move (.t 10), none⟩,
          ⟨(some 57), .move (.t 7), none⟩,
          ⟨(some 58), .bin .sub (.t 56) (.t 57), none⟩,
          ⟨(some 59), .indexStr (.t 55) (.t 58), none⟩,
          ⟨(some 60), .conv .u32 (.t 59), none⟩,
          ⟨(some 61), .bin .mul (.t 54) (.t 60), none⟩,
          ⟨(some 62), .bin .sub (.t 53) (.t 61), none⟩,
          ⟨(some 8), .move (.t 62), none⟩])
        (.seq
        (.region [
          ⟨(some 63), .move (.t 10), none⟩,
          ⟨(some 64), .bin .add (.t 63) (.c (.int .i64 1)), none⟩,
          ⟨(some 10), .move (.t 64), none⟩])
        (.seq
        (.region [
          ⟨(some 65), .move (.t 8), none⟩,
          ⟨(some 66), .move (.t 5), none⟩,
          ⟨(some 67), .bin .eql (.t 65) (.t 66), none⟩,
          ⟨(some 68), .move (.t 67), none⟩,
          ⟨(some 69), .move (.t 0), some (some 68, true)⟩,
          ⟨(some 70), .move (.t 10), some (some 68, true)⟩,
          ⟨(some 71), .move (.t 7), some (some 68, true)⟩,
          ⟨(some 72), .bin .sub (.t 70) (.t 71), some (some 68, true)⟩,
          ⟨(some 73), .move (.t 10), some (some 68, true)⟩,
          ⟨(some 74), .sliceStr (.t 69) (some (.t 72)) (some (.t 73)), some (some 68, true)⟩,
          ⟨(some 75), .move (.t 1), some (some 68, true)⟩,
          ⟨(some 76), .bin .eql (.t 74) (.t 75), some (some 68, true)⟩,
          ⟨(some 77), .pick (.t 68) (.t 76) (.c (.bool false)), none⟩])
        (.cond (.t 77)
          (.seq
          (.region [
            ⟨(some 78), .move (.t 10), none⟩,
            ⟨(some 79), .move (.t 7), none⟩,
            ⟨(some 80), .bin .sub (.t 78) (.t 79), none⟩,
            ⟨(some 4), .move (.t 80), none⟩])
          .ret)
          .skip)))))))))))
  (.seq
  (.region [
    ⟨(some 4), .move (.c (.int .i64 (-1))), none⟩])
  .ret))))))))⟩

structure F_bytealg_IndexRabinKarp_string (P : Program) where
  id : FuncId
  bytealg_hashStr_string : F_bytealg_hashStr_string P
  has : Has P id [] (c_bytealg_IndexRabinKarp_string bytealg_hashStr_string.id)

def c_stringslite_Index (f_stringslite_IndexByte : FuncId) (f_bytealg_IndexString : FuncId) (f_bytealg_IndexRabinKarp_string : FuncId) : AFunc := ⟨143, [.tmp 4],
  (.seq
  (.region [
    ⟨(some 4), .move (.c (.int .i64 0)), none⟩])
  (.seq
  (.region [
    ⟨(some 14), .move (.t 1), none⟩,
    ⟨(some 15), .lenS (.t 14), none⟩,
    ⟨(some 5), .move (.t 15), none⟩])
  (.seq
  (.block 0
    (.seq
    (.region [
      ⟨(some 17), .move (.t 5), none⟩,
      ⟨(some 18), .bin .eql (.t 17) (.c (.int .i64 0)), none⟩,
      ⟨(some 19), .move (.t 18), none⟩,
      ⟨(some 20), .move (.t 1), some (some 19, false)⟩,
      ⟨(some 21), .move (.t 0), some (some 19, false)⟩,
      ⟨(some 22), .bin .eql (.t 20) (.t 21), some (some 19, false)⟩,
      ⟨(some 23), .pick (.t 19) (.c (.bool true)) (.t 22), none⟩,
      ⟨(some 16), .move (.t 23), none⟩])
    (.cond (.t 16)
      (.seq
      (.region [
        ⟨(some 4), .move (.c (.int .i64 0)), none⟩])
      .ret)
      (.seq
      (.region [
        ⟨(some 25), .move (.t 5), none⟩,
        ⟨(some 26), .bin .eql (.t 25) (.c (.int .i64 1)), none⟩,
        ⟨(some 24), .move (.t 26), none⟩])
      (.cond (.t 24)
        (.seq
        (.region [
          ⟨(some 27), .move (.t 0), none⟩,
          ⟨(some 28), .move (.t 1), none⟩,
          ⟨(some 29), .indexStr (.t 28) (.c (.int .i64 0)), none⟩,
          ⟨(some 30), .call f_stringslite_IndexByte [(.t 27), (.t 29)], none⟩,
          ⟨(some 4), .move (.t 30), none⟩])
        .ret)
        (.seq
        (.region [
          ⟨(some 32), .move (.t 5), none⟩,
          ⟨(some 33), .move (.t 0), none⟩,
          ⟨(some 34), .lenS (.t 33), none⟩,
          ⟨(some 35), .bin .geq (.t 32) (.t 34), none⟩,
          ⟨(some 31), .move (.t 35), none⟩])
        (.cond (.t 31)
          (.seq
          (.region [
            ⟨(some 4), .move (.c (.int .i64 (-1))), none⟩])
          .ret)
          (.seq
          .stuck
          (.cond (.t 36)
            (.seq
            (.region [
              ⟨(some 45), .move (.t 0), none⟩,
              ⟨(some 46), .move (.t 1), none⟩,
              ⟨(some 47), .call f_bytealg_IndexString [(.t 45), (.t 46)], none⟩,
              ⟨(some 4), .move (.t 47), none⟩])
            .ret)
            .skip)))))))))
  (.seq
  (.region [
    ⟨(some 48), .move (.t 1), none⟩,
    ⟨(some 49), .indexStr (.t 48) (.c (.int .i64 0)), none⟩,
    ⟨(some 6), .move (.t 49), none⟩])
  (.seq
  (.region [
    ⟨(some 50), .move (.t 1), none⟩,
    ⟨(some 51), .indexStr (.t 50) (.c (.int .i64 1)), none⟩,
    ⟨(some 7), .move (.t 51), none⟩])
  (.seq
  (.region [
    ⟨(some 8), .move (.c (.int .i64 0)), none⟩])
  (.seq
  (.region [
    ⟨(some 52), .move (.t 0), none⟩,
    ⟨(some 53), .lenS (.t 52), none⟩,
    ⟨(some 54), .move (.t 5), none⟩,
    ⟨(some 55), .bin .sub (.t 53) (.t 54), none⟩,
    ⟨(some 56), .bin .add (.t 55) (.c (.int .i64 1)), none⟩,
    ⟨(some 9), .move (.t 56), none⟩])
  (.seq
  (.region [
    ⟨(some 10), .move (.c (.int .i64 0)), none⟩])
  (.seq
  (.block 1
    (.loop
      (.seq
      (.seq
      (.region [
        ⟨(some 57), .move (.t 8), none⟩,
        ⟨(some 58), .move (.t 9), none⟩,
        ⟨(some 59), .bin .lss (.t 57) (.t 58), none⟩])
      (.cond (.t 59)
        .skip
        (.exit 1)))
      (.block 2
        (.seq
        (.seq
        (.region [
          ⟨(some 60), .move (.t 0), none⟩,
          ⟨(some 61), .move (.t 8), none⟩,
          ⟨(some 62), .indexStr (.t 60) (.t 61), none⟩,
          ⟨(some 63), .move (.t 6), none⟩,
          ⟨(some 64), .bin .neq (.t 62) (.t 63), none⟩])
        (.cond (.t 64)
          (.seq
          (.region [
            ⟨(some 65), .move (.t 0), none⟩,
            ⟨(some 66), .move (.t 8), none⟩,
            ⟨(some 67), .bin .add (.t 66) (.c (.int .i64 1)), none⟩,
            ⟨(some 68), .move (.t 9), none⟩,
            ⟨(some 69), .sliceStr (.t 65) (some (.t 67)) (some (.t 68)), none⟩,
            ⟨(some 70), .move (.t 6), none⟩,
            ⟨(some 71), .call f_stringslite_IndexByte [(.t 69), (.t 70)], none⟩,
            ⟨(some 11), .move (.t 71), none⟩])
          (.seq
          (.seq
          (.region [
            ⟨(some 72), .move (.t 11), none⟩,
            ⟨(some 73), .bin .lss (.t 72) (.c (.int .i64 0)), none⟩])
          (.cond (.t 73)
            (.seq
            (.region [
              ⟨(some 4), .move (.c (.int .i64 (-1))), none⟩])
            .ret)
            .skip))
          (.region [
            ⟨(some 74), .move (.t 8), none⟩,
            ⟨(some 75), .move (.t 11), none⟩,
            ⟨(some 76), .bin .add (.t 75) (.c (.int .i64 1)), none⟩,
            ⟨(some 77), .bin .add (.t 74) (.t 76), none⟩,
            ⟨(some 8), .move (.t 77), none⟩])))
          .skip))
        (.seq
        (.seq
        (.region [
          ⟨(some 78), .move (.t 0), none⟩,
          ⟨(some 79), .move (.t 8), none⟩,
          ⟨(some 80), .bin .add (.t 79) (.c (.int .i64 1)), none⟩,
          ⟨(some 81), .indexStr (.t 78) (.t 80), none⟩,
          ⟨(some 82), .move (.t 7), none⟩,
          ⟨(some 83), .bin .eql (.t 81) (.t 82), none⟩,
          ⟨(some 84), .move (.t 83), none⟩,
          ⟨(some 85), .move (.t 0), some (some 84, true)⟩,
          ⟨(some 86), .move (.t 8), some (some 84, true)⟩,
          ⟨(some 87), .move (.t 8), some (some 84, true)⟩,
          ⟨(some 88), .move (.t 5), some (some 84, true)⟩,
          ⟨(some 89), .bin .add (.t 87) (.t 88), some (some 84, true)⟩,
          ⟨(some 90), .sliceStr (.t 85) (some (.t 86)) (some (.t 89)), some (some 84, true)⟩,
          ⟨(some 91), .move (.t 1), some (some 84, true)⟩,
          ⟨(some 92), .bin .eql (.t 90) (.t 91), some (some 84, true)⟩,
          ⟨(some 93), .pick (.t 84) (.t 92) (.c (.bool false)), none⟩])
        (.cond (.t 93)
          (.seq
          (.region [
            ⟨(some 94), .move (.t 8), none⟩,
            ⟨(some 4), .move (.t 94), none⟩])
          .ret)
          .skip))
        (.seq
        (.region [
          ⟨(some 95), .move (.t 8), none⟩,
          ⟨(some 96), .bin .add (.t 95) (.c (.int .i64 1)), none⟩,
          ⟨(some 8), .move (.t 96), none⟩])
        (.seq
        (.region [
          ⟨(some 97), .move (.t 10), none⟩,
          ⟨(some 98), .bin .add (.t 97) (.c (.int .i64 1)), none⟩,
          ⟨(some 10), .move (.t 98), none⟩])
        (.seq
        .stuck
        (.cond (.t 107)
          (.seq
          (.region [
            ⟨(some 108), .move (.t 0), none⟩,
            ⟨(some 109), .move (.t 8), none⟩,
            ⟨(some 110), .sliceStr (.t 108) (some (.t 109)) none, none⟩,
            ⟨(some 111), .move (.t 1), none⟩,
            ⟨(some 112), .call f_bytealg_IndexString [(.t 110), (.t 111)], none⟩,
            ⟨(some 12), .move (.t 112), none⟩])
          (.seq
          (.seq
          (.region [
            ⟨(some 113), .move (.t 12), none⟩,
            ⟨(some 114), .bin .geq (.t 113) (.c (.int .i64 0)), none⟩])
          (.cond (.t 114)
            (.seq
            (.region [
              ⟨(some 115), .move (.t 12), none⟩,
              ⟨(some 116), .move (.t 8), none⟩,
              ⟨(some 117), .bin .add (.t 115) (.t 116), none⟩,
              ⟨(some 4), .move (.t 117), none⟩])
            .ret)
            .skip))
          (.seq
          (.region [
            ⟨(some 4), .move (.c (.int .i64 (-1))), none⟩])
          .ret)))
          (.seq
          .stuck
          (.cond (.t 132)
            (.seq
            (.region [
              ⟨(some 133), .move (.t 0), none⟩,
              ⟨(some 134), .move (.t 8), none⟩,
              ⟨(some 135), .sliceStr (.t 133) (some (.t 134)) none, none⟩,
              ⟨(some 136), .move (.t 1), none⟩,
              ⟨(some 137), .call f_bytealg_IndexRabinKarp_string [(.t 135), (.t 136)], none⟩,
              ⟨(some 13), .move (.t 137), none⟩])
            (.seq
            (.seq
            (.region [
              ⟨(some 138), .move (.t 13), none⟩,
              ⟨(some 139), .bin .lss (.t 138) (.c (.int .i64 0)), none⟩])
            (.cond (.t 139)
              (.seq
              (.region [
                ⟨(some 4), .move (.c (.int .i64 (-1))), none⟩])
              .ret)
              .skip))
            (.seq
            (.region [
              ⟨(some 140), .move (.t 8), none⟩,
              ⟨(some 141), .move (.t 13), none⟩,
              ⟨(some 142), .bin .add (.t 140) (.t 141), none⟩,
              ⟨(some 4), .move (.t 142), none⟩])
            .ret)))
            .skip))))))))))))
  (.seq
  (.region [
    ⟨(some 4), .move (.c (.int .i64 (-1))), none⟩])
  .ret))))))))))⟩

structure F_stringslite_Index (P : Program) where
  id : FuncId
  stringslite_IndexByte : F_stringslite_IndexByte P
  bytealg_IndexString : FuncId
  bytealg_IndexRabinKarp_string : F_bytealg_IndexRabinKarp_string P
  has : Has P id [] (c_stringslite_Index stringslite_IndexByte.id bytealg_IndexString bytealg_IndexRabinKarp_string.id)

def c_stringslite_Cut (f_stringslite_Index : FuncId) : AFunc := ⟨23, [.tmp 4, .tmp 5, .tmp 6],
  (.seq
  (.region [
    ⟨(some 4), .move (.c (.str (bs []))), none⟩,
    ⟨(some 5), .move (.c (.str (bs []))), none⟩,
    ⟨(some 6), .move (.c (.bool false)), none⟩])
  (.seq
  (.seq
  (.region [
    ⟨(some 8), .move (.t 0), none⟩,
    ⟨(some 9), .move (.t 1), none⟩,
    ⟨(some 10), .call f_stringslite_Index [(.t 8), (.t 9)], none⟩,
    ⟨(some 7), .move (.t 10), none⟩])
  (.seq
  (.region [
    ⟨(some 11), .move (.t 7), none⟩,
    ⟨(some 12), .bin .geq (.t 11) (.c (.int .i64 0)), none⟩])
  (.cond (.t 12)
    (.seq
    (.draw [
      (⟨(some 13), .move (.t 0), none⟩, []),
      (⟨(some 14), .move (.t 7), none⟩, []),
      (⟨(some 15), .sliceStr (.t 13) none (some (.t 14)), none⟩, []),
      (⟨(some 16), .move (.t 0), none⟩, []),
      (⟨(some 17), .move (.t 7), none⟩, []),
      (⟨(some 18), .move (.t 1), none⟩, []),
      (⟨(some 19), .lenS (.t 18), none⟩, []),
      (⟨(some 20), .bin .add (.t 17) (.t 19), none⟩, []),
      (⟨(some 21), .sliceStr (.t 16) (some (.t 20)) none, none⟩, []),
      (⟨(some 4), .move (.t 15), none⟩, []),
      (⟨(some 5), .move (.t 21), none⟩, []),
      (⟨(some 6), .move (.c (.bool true)), none⟩, [])])
    .ret)
    .skip)))
  (.seq
  (.region [
    ⟨(some 22), .move (.t 0), none⟩,
    ⟨(some 4), .move (.t 22), none⟩,
    ⟨(some 5), .move (.c (.str (bs []))), none⟩,
    ⟨(some 6), .move (.c (.bool false)), none⟩])
  .ret)))⟩

structure F_stringslite_Cut (P : Program) where
  id : FuncId
  stringslite_Index : F_stringslite_Index P
  has : Has P id [] (c_stringslite_Cut stringslite_Index.id)

def c_strings_Cut (f_stringslite_Cut : FuncId) : AFunc := ⟨13, [.tmp 4, .tmp 5, .tmp 6],
  (.seq
  (.region [
    ⟨(some 4), .move (.c (.str (bs []))), none⟩,
    ⟨(some 5), .move (.c (.str (bs []))), none⟩,
    ⟨(some 6), .move (.c (.bool false)), none⟩])
  (.seq
  (.region [
    ⟨(some 7), .move (.t 0), none⟩,
    ⟨(some 8), .move (.t 1), none⟩,
    ⟨(some 9), .call f_stringslite_Cut [(.t 7), (.t 8)], none⟩,
    ⟨(some 10), .extract (.t 9) 0, none⟩,
    ⟨(some 11), .extract (.t 9) 1, none⟩,
    ⟨(some 12), .extract (.t 9) 2, none⟩,
    ⟨(some 4), .move (.t 10), none⟩,
    ⟨(some 5), .move (.t 11), none⟩,
    ⟨(some 6), .move (.t 12), none⟩])
  .ret))⟩

structure F_strings_Cut (P : Program) where
  id : FuncId
  stringslite_Cut : F_stringslite_Cut P
  has : Has P id [] (c_strings_Cut stringslite_Cut.id)

def c_schema_IsQualified (f_strings_Cut : FuncId) (f_schema_IsName : FuncId) : AFunc := ⟨22, [.tmp 2],
  (.seq
  (.region [
    ⟨(some 2), .move (.c (.bool false)), none⟩])
  (.seq
  (.region [
    ⟨(some 7), .move (.t 0), none⟩,
    ⟨(some 8), .call f_strings_Cut [(.t 7), (.c (.str (bs [46])))], none⟩,
    ⟨(some 6), .move (.t 8), none⟩,
    ⟨(some 9), .extract (.t 6) 0, none⟩,
    ⟨(some 10), .extract (.t 6) 1, none⟩,
    ⟨(some 11), .extract (.t 6) 2, none⟩,
    ⟨(some 3), .move (.t 9), none⟩,
    ⟨(some 4), .move (.t 10), none⟩,
    ⟨(some 5), .move (.t 11), none⟩])
  (.seq
  (.region [
    ⟨(some 12), .move (.t 3), none⟩,
    ⟨(some 13), .call f_schema_IsName [(.t 12)], none⟩,
    ⟨(some 14), .move (.t 13), none⟩,
    ⟨(some 15), .move (.t 5), some (some 14, true)⟩,
    ⟨(some 16), .un .not (.t 15), some (some 14, true)⟩,
    ⟨(some 17), .move (.t 16), some (some 14, true)⟩,
    ⟨(some 18), .move (.t 4), some (some 17, false)⟩,
    ⟨(some 19), .call f_schema_IsName [(.t 18)], some (some 17, false)⟩,
    ⟨(some 20), .pick (.t 17) (.c (.bool true)) (.t 19), some (some 14, true)⟩,
    ⟨(some 21), .pick (.t 14) (.t 20) (.c (.bool false)), none⟩,
    ⟨(some 2), .move (.t 21), none⟩])
  .ret)))⟩

structure F_schema_IsQualified (P : Program) where
  id : FuncId
  strings_Cut : F_strings_Cut P
  schema_IsName : F_schema_IsName P
  has : Has P id [] (c_schema_IsQualified strings_Cut.id schema_IsName.id)

def c_warehouseref5_IsName : AFunc := ⟨58, [.tmp 2],
  (.seq
  (.region [
    ⟨(some 2), .move (.c (.bool false)), none⟩])
  (.seq
  (.seq
  (.region [
    ⟨(some 4), .move (.t 0), none⟩,
    ⟨(some 5), .lenS (.t 4), none⟩,
    ⟨(some 6), .bin .lss (.t 5) (.c (.int .i64 1)), none⟩,
    ⟨(some 7), .move (.t 6), none⟩,
    ⟨(some 8), .move (.t 0), some (some 7, false)⟩,
    ⟨(some 9), .lenS (.t 8), some (some 7, false)⟩,
    ⟨(some 10), .bin .gtr (.t 9) (.c (.int .i64 24)), some (some 7, false)⟩,
    ⟨(some 11), .pick (.t 7) (.c (.bool true)) (.t 10), none⟩,
    ⟨(some 12), .move (.t 11), none⟩,
    ⟨(some 13), .move (.t 0), some (some 12, false)⟩,
    ⟨(some 14), .indexStr (.t 13) (.c (.int .i64 0)), some (some 12, false)⟩,
    ⟨(some 15), .bin .lss (.t 14) (.c (.int .u8 97)), some (some 12, false)⟩,
    ⟨(some 16), .pick (.t 12) (.c (.bool true)) (.t 15), none⟩,
    ⟨(some 17), .move (.t 16), none⟩,
    ⟨(some 18), .move (.t 0), some (some 17, false)⟩,
    ⟨(some 19), .indexStr (.t 18) (.c (.int .i64 0)), some (some 17, false)⟩,
    ⟨(some 20), .bin .gtr (.t 19) (.c (.int .u8 122)), some (some 17, false)⟩,
    ⟨(some 21), .pick (.t 17) (.c (.bool true)) (.t 20), none⟩])
  (.cond (.t 21)
    (.seq
    (.region [
      ⟨(some 2), .move (.c (.bool false)), none⟩])
    .ret)
    .skip))
  (.seq
  (.seq
  (.region [
    ⟨(some 3), .move (.c (.int .i64 0)), none⟩])
  (.block 0
    (.loop
      (.seq
      (.seq
      (.region [
        ⟨(some 22), .move (.t 3), none⟩,
        ⟨(some 23), .move (.t 0), none⟩,
        ⟨(some 24), .lenS (.t 23), none⟩,
        ⟨(some 25), .bin .lss (.t 22) (.t 24), none⟩])
      (.cond (.t 25)
        .skip
        (.exit 0)))
      (.seq
      (.block 1
        (.seq
        (.region [
          ⟨(some 28), .move (.t 0), none⟩,
          ⟨(some 29), .move (.t 3), none⟩,
          ⟨(some 30), .indexStr (.t 28) (.t 29), none⟩,
          ⟨(some 31), .bin .geq (.t 30) (.c (.int .u8 97)), none⟩,
          ⟨(some 32), .move (.t 31), none⟩,
          ⟨(some 33), .move (.t 0), some (some 32, true)⟩,
          ⟨(some 34), .move (.t 3), some (some 32, true)⟩,
          ⟨(some 35), .indexStr (.t 33) (.t 34), some (some 32, true)⟩,
          ⟨(some 36), .bin .leq (.t 35) (.c (.int .u8 122)), some (some 32, true)⟩,
          ⟨(some 37), .pick (.t 32) (.t 36) (.c (.bool false)), none⟩,
          ⟨(some 38), .un .not (.t 37), none⟩,
          ⟨(some 39), .move (.t 38), none⟩,
          ⟨(some 40), .move (.t 0), some (some 39, true)⟩,
          ⟨(some 41), .move (.t 3), some (some 39, true)⟩,
          ⟨(some 42), .indexStr (.t 40) (.t 41), some (some 39, true)⟩,
          ⟨(some 43), .bin .geq (.t 42) (.c (.int .u8 48)), some (some 39, true)⟩,
          ⟨(some 44), .move (.t 43), some (some 39, true)⟩,
          ⟨(some 45), .move (.t 0), some (some 44, true)⟩,
          ⟨(some 46), .move (.t 3), some (some 44, true)⟩,
          ⟨(some 47), .indexStr (.t 45) (.t 46), some (some 44, true)⟩,
          ⟨(some 48), .bin .leq (.t 47) (.c (.int .u8 57)), some (some 44, true)⟩,
          ⟨(some 49), .pick (.t 44) (.t 48) (.c (.bool false)), some (some 39, true)⟩,
          ⟨(some 50), .un .not (.t 49), some (some 39, true)⟩,
          ⟨(some 51), .pick (.t 39) (.t 50) (.c (.bool false)), none⟩,
          ⟨(some 52), .move (.t 51), none⟩,
          ⟨(some 53), .move (.t 0), some (some 52, true)⟩,
          ⟨(some 54), .move (.t 3), some (some 52, true)⟩,
          ⟨(some 55), .indexStr (.t 53) (.t 54), some (some 52, true)⟩,
          ⟨(some 56), .bin .neq (.t 55) (.c (.int .u8 95)), some (some 52, true)⟩,
          ⟨(some 57), .pick (.t 52) (.t 56) (.c (.bool false)), none⟩])
        (.cond (.t 57)
          (.seq
          (.region [
            ⟨(some 2), .move (.c (.bool false)), none⟩])
          .ret)
          .skip)))
      (.region [
        ⟨(some 26), .move (.t 3), none⟩,
        ⟨(some 27), .bin .add (.t 26) (.c (.int .i64 1)), none⟩,
        ⟨(some 3), .move (.t 27), none⟩]))))))
  (.seq
  (.region [
    ⟨(some 2), .move (.c (.bool true)), none⟩])
  .ret))))⟩

structure F_warehouseref5_IsName (P : Program) where
  id : FuncId
  has : Has P id [] c_warehouseref5_IsName

def c_warehouseref5_IsQualified (f_warehouseref5_IsName : FuncId) : AFunc := ⟨27, [.tmp 2],
  (.seq
  (.region [
    ⟨(some 2), .move (.c (.bool false)), none⟩])
  (.seq
  (.seq
  (.region [
    ⟨(some 3), .move (.c (.int .i64 0)), none⟩])
  (.block 0
    (.loop
      (.seq
      (.seq
      (.region [
        ⟨(some 4), .move (.t 3), none⟩,
        ⟨(some 5), .move (.t 0), none⟩,
        ⟨(some 6), .lenS (.t 5), none⟩,
        ⟨(some 7), .bin .lss (.t 4) (.t 6), none⟩])
      (.cond (.t 7)
        .skip
        (.exit 0)))
      (.seq
      (.block 1
        (.seq
        (.region [
          ⟨(some 10), .move (.t 0), none⟩,
          ⟨(some 11), .move (.t 3), none⟩,
          ⟨(some 12), .indexStr (.t 10) (.t 11), none⟩,
          ⟨(some 13), .bin .eql (.t 12) (.c (.int .u8 46)), none⟩])
        (.cond (.t 13)
          (.seq
          (.region [
            ⟨(some 14), .move (.t 0), none⟩,
            ⟨(some 15), .move (.t 3), none⟩,
            ⟨(some 16), .sliceStr (.t 14) none (some (.t 15)), none⟩,
            ⟨(some 17), .call f_warehouseref5_IsName [(.t 16)], none⟩,
            ⟨(some 18), .move (.t 17), none⟩,
            ⟨(some 19), .move (.t 0), some (some 18, true)⟩,
            ⟨(some 20), .move (.t 3), some (some 18, true)⟩,
            ⟨(some 21), .bin .add (.t 20) (.c (.int .i64 1)), some (some 18, true)⟩,
            ⟨(some 22), .sliceStr (.t 19) (some (.t 21)) none, some (some 18, true)⟩,
            ⟨(some 23), .call f_warehouseref5_IsName [(.t 22)], some (some 18, true)⟩,
            ⟨(some 24), .pick (.t 18) (.t 23) (.c (.bool false)), none⟩,
            ⟨(some 2), .move (.t 24), none⟩])
          .ret)
          .skip)))
      (.region [
        ⟨(some 8), .move (.t 3), none⟩,
        ⟨(some 9), .bin .add (.t 8) (.c (.int .i64 1)), none⟩,
        ⟨(some 3), .move (.t 9), none⟩]))))))
  (.seq
  (.region [
    ⟨(some 25), .move (.t 0), none⟩,
    ⟨(some 26), .call f_warehouseref5_IsName [(.t 25)], none⟩,
    ⟨(some 2), .move (.t 26), none⟩])
  .ret)))⟩

structure F_warehouseref5_IsQualified (P : Program) where
  id : FuncId
  warehouseref5_IsName : F_warehouseref5_IsName P
  has : Has P id [] (c_warehouseref5_IsQualified warehouseref5_IsName.id)

end Go.AW

