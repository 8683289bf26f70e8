/-
  An abstract machine over the model, the code of functions on it, and their contracts: what the claim needs.
  No condition: definitions, plain laws, contracts over any program that has this code.
-/
import Derived.Test.YtgmobjimfalhoaaGreatZ2
set_option linter.all false
namespace Go.AW
def c_warehousebase_Moment : AFunc := ⟨29, [.tmp 2],
  (.seq
  (.region [
    ⟨(some 2), .move (.c (.int .i64 0)), none⟩])
  (.seq
  (.region [
    ⟨(some 3), .move (.t 0), none⟩,
    ⟨(some 4), .bin .and (.t 3) (.c (.int .i64 65535)), none⟩,
    ⟨(some 0), .move (.t 4), none⟩])
  (.seq
  (.seq
  (.region [
    ⟨(some 5), .move (.t 0), none⟩,
    ⟨(some 6), .bin .shr (.t 5) (.c (.int .u64 8)), none⟩,
    ⟨(some 7), .bin .and (.t 6) (.c (.int .i64 15)), none⟩,
    ⟨(some 8), .bin .eql (.t 7) (.c (.int .i64 0)), none⟩])
  (.cond (.t 8)
    (.seq
    (.region [
      ⟨(some 9), .buildSlice 1 6 [(.int .i64 0)] [(0, (.c (.int .i64 0))), (1, (.c (.int .i64 1))), (2, (.c (.int .i64 575999999))), (3, (.c (.int .i64 575999998))), (4, (.c (.int .i64 1439))), (5, (.c (.int .i64 1440)))], none⟩,
      ⟨(some 10), .move (.t 0), none⟩,
      ⟨(some 11), .bin .rem (.t 10) (.c (.int .i64 6)), none⟩,
      ⟨(some 12), .indexAddr 1 (.t 9) (.t 11), none⟩,
      ⟨(some 13), .load false 1 (.t 12), none⟩,
      ⟨(some 2), .move (.t 13), none⟩])
    .ret)
    .skip))
  (.seq
  (.region [
    ⟨(some 14), .move (.t 0), none⟩,
    ⟨(some 15), .bin .shr (.t 14) (.c (.int .u64 3)), none⟩,
    ⟨(some 16), .bin .and (.t 15) (.c (.int .i64 3)), none⟩,
    ⟨(some 17), .bin .mul (.t 16) (.c (.int .i64 1440)), none⟩,
    ⟨(some 18), .bin .add (.c (.int .i64 144000)) (.t 17), none⟩,
    ⟨(some 19), .move (.t 0), none⟩,
    ⟨(some 20), .bin .rem (.t 19) (.c (.int .i64 7)), none⟩,
    ⟨(some 21), .bin .mul (.t 20) (.c (.int .i64 200)), none⟩,
    ⟨(some 22), .bin .add (.t 18) (.t 21), none⟩,
    ⟨(some 23), .move (.t 0), none⟩,
    ⟨(some 24), .bin .shr (.t 23) (.c (.int .u64 5)), none⟩,
    ⟨(some 25), .bin .and (.t 24) (.c (.int .i64 1)), none⟩,
    ⟨(some 26), .bin .mul (.t 25) (.c (.int .i64 1439)), none⟩,
    ⟨(some 27), .bin .add (.t 22) (.t 26), none⟩,
    ⟨(some 28), .bin .sub (.t 27) (.c (.int .i64 600)), none⟩,
    ⟨(some 2), .move (.t 28), none⟩])
  .ret))))⟩

structure F_warehousebase_Moment (P : Program) where
  id : FuncId
  has : Has P id [] c_warehousebase_Moment

def c_warehousebase_Value (f_warehousebase_Moment : FuncId) : AFunc := ⟨48, [.cell true 3 4],
  (.seq
  (.region [
    ⟨(some 4), .alloc [(.int .i64 0), (.int .i64 0), (.str (bs []))], none⟩])
  (.seq
  (.region [
    ⟨(some 6), .move (.t 1), none⟩,
    ⟨(some 7), .bin .and (.t 6) (.c (.int .i64 65535)), none⟩,
    ⟨(some 1), .move (.t 7), none⟩])
  (.seq
  (.seq
  (.region [
    ⟨(some 8), .move (.t 0), none⟩])
  (.block 0
    (.seq
    (.region [
      ⟨(some 10), .bin .eql (.t 8) (.c (.int .i64 1)), none⟩,
      ⟨(some 9), .move (.t 10), none⟩])
    (.cond (.t 9)
      (.seq
      (.region [
        ⟨(some 11), .move (.t 1), none⟩,
        ⟨(some 12), .bin .and (.t 11) (.c (.int .i64 1)), none⟩,
        ⟨(some 13), .build [(.int .i64 0), (.int .i64 0), (.str (bs []))] [(0, 1, (.c (.int .i64 1))), (1, 1, (.t 12))], none⟩,
        ⟨none, .store 3 (.t 4) (.t 13), none⟩])
      .ret)
      (.seq
      (.region [
        ⟨(some 15), .bin .eql (.t 8) (.c (.int .i64 2)), none⟩,
        ⟨(some 14), .move (.t 15), none⟩])
      (.cond (.t 14)
        (.seq
        (.region [
          ⟨(some 16), .move (.t 1), none⟩,
          ⟨(some 17), .bin .rem (.t 16) (.c (.int .i64 7)), none⟩,
          ⟨(some 18), .bin .sub (.t 17) (.c (.int .i64 2)), none⟩,
          ⟨(some 5), .move (.t 18), none⟩])
        (.seq
        (.seq
        (.region [
          ⟨(some 19), .move (.t 1), none⟩,
          ⟨(some 20), .bin .shr (.t 19) (.c (.int .u64 8)), none⟩,
          ⟨(some 21), .bin .and (.t 20) (.c (.int .i64 31)), none⟩])
        (.block 1
          (.seq
          (.region [
            ⟨(some 23), .bin .eql (.t 21) (.c (.int .i64 0)), none⟩,
            ⟨(some 22), .move (.t 23), none⟩])
          (.cond (.t 22)
            (.region [
              ⟨(some 24), .move (.t 1), none⟩,
              ⟨(some 25), .bin .and (.t 24) (.c (.int .i64 1)), none⟩,
              ⟨(some 26), .bin .sub (.c (.int .i64 1073741824)) (.t 25), none⟩,
              ⟨(some 5), .move (.t 26), none⟩])
            (.seq
            (.region [
              ⟨(some 28), .bin .eql (.t 21) (.c (.int .i64 1)), none⟩,
              ⟨(some 27), .move (.t 28), none⟩])
            (.cond (.t 27)
              (.region [
                ⟨(some 29), .move (.t 1), none⟩,
                ⟨(some 30), .bin .and (.t 29) (.c (.int .i64 3)), none⟩,
                ⟨(some 31), .bin .sub (.t 30) (.c (.int .i64 1073741824)), none⟩,
                ⟨(some 5), .move (.t 31), none⟩])
              .skip))))))
        (.seq
        (.region [
          ⟨(some 32), .move (.t 5), none⟩,
          ⟨(some 33), .build [(.int .i64 0), (.int .i64 0), (.str (bs []))] [(0, 1, (.c (.int .i64 2))), (1, 1, (.t 32))], none⟩,
          ⟨none, .store 3 (.t 4) (.t 33), none⟩])
        .ret)))
        (.seq
        (.region [
          ⟨(some 35), .bin .eql (.t 8) (.c (.int .i64 3)), none⟩,
          ⟨(some 34), .move (.t 35), none⟩])
        (.cond (.t 34)
          (.seq
          (.region [
            ⟨(some 36), .buildSlice 1 6 [(.str (bs []))] [(0, (.c (.str (bs [97])))), (1, (.c (.str (bs [98])))), (2, (.c (.str (bs [99])))), (3, (.c (.str (bs [])))), (4, (.c (.str (bs [105, 116, 39, 115])))), (5, (.c (.str (bs [97, 32, 98]))))], none⟩,
            ⟨(some 37), .move (.t 1), none⟩,
            ⟨(some 38), .bin .rem (.t 37) (.c (.int .i64 6)), none⟩,
            ⟨(some 39), .indexAddr 1 (.t 36) (.t 38), none⟩,
            ⟨(some 40), .load false 1 (.t 39), none⟩,
            ⟨(some 41), .build [(.int .i64 0), (.int .i64 0), (.str (bs []))] [(0, 1, (.c (.int .i64 3))), (2, 1, (.t 40))], none⟩,
            ⟨none, .store 3 (.t 4) (.t 41), none⟩])
          .ret)
          (.seq
          (.region [
            ⟨(some 43), .bin .eql (.t 8) (.c (.int .i64 4)), none⟩,
            ⟨(some 42), .move (.t 43), none⟩])
          (.cond (.t 42)
            (.seq
            (.region [
              ⟨(some 44), .move (.t 1), none⟩,
              ⟨(some 45), .call f_warehousebase_Moment [(.t 44)], none⟩,
              ⟨(some 46), .build [(.int .i64 0), (.int .i64 0), (.str (bs []))] [(0, 1, (.c (.int .i64 4))), (1, 1, (.t 45))], none⟩,
              ⟨none, .store 3 (.t 4) (.t 46), none⟩])
            .ret)
            .skip))))))))))
  (.seq
  (.region [
    ⟨(some 47), .build [(.int .i64 0), (.int .i64 0), (.str (bs []))] [], none⟩,
    ⟨none, .store 3 (.t 4) (.t 47), none⟩])
  .ret))))⟩

structure F_warehousebase_Value (P : Program) where
  id : FuncId
  warehousebase_Moment : F_warehousebase_Moment P
  has : Has P id [] (c_warehousebase_Value warehousebase_Moment.id)

def c_value_Valid : AFunc := ⟨66, [.tmp 2],
  (.seq
  (.region [
    ⟨(some 1), .box (.t 0), none⟩,
    ⟨(some 2), .move (.c (.bool false)), none⟩])
  (.seq
  (.seq
  (.region [
    ⟨(some 3), .fieldAddr 0 (.t 1), none⟩,
    ⟨(some 4), .load false 1 (.t 3), none⟩])
  (.block 0
    (.seq
    (.region [
      ⟨(some 6), .bin .eql (.t 4) (.c (.int .i64 0)), none⟩,
      ⟨(some 5), .move (.t 6), none⟩])
    (.cond (.t 5)
      (.seq
      (.region [
        ⟨(some 7), .load true 3 (.t 1), none⟩,
        ⟨(some 8), .build [(.int .i64 0), (.int .i64 0), (.str (bs []))] [], none⟩,
        ⟨(some 9), .eqs false [1, 1, 2] (.t 7) (.t 8), none⟩,
        ⟨(some 2), .move (.t 9), none⟩])
      .ret)
      (.seq
      (.region [
        ⟨(some 11), .bin .eql (.t 4) (.c (.int .i64 1)), none⟩,
        ⟨(some 10), .move (.t 11), none⟩])
      (.cond (.t 10)
        (.seq
        (.region [
          ⟨(some 12), .fieldAddr 2 (.t 1), none⟩,
          ⟨(some 13), .load false 1 (.t 12), none⟩,
          ⟨(some 14), .bin .eql (.t 13) (.c (.str (bs []))), none⟩,
          ⟨(some 15), .move (.t 14), none⟩,
          ⟨(some 16), .fieldAddr 1 (.t 1), some (some 15, true)⟩,
          ⟨(some 17), .load false 1 (.t 16), some (some 15, true)⟩,
          ⟨(some 18), .bin .eql (.t 17) (.c (.int .i64 0)), some (some 15, true)⟩,
          ⟨(some 19), .move (.t 18), some (some 15, true)⟩,
          ⟨(some 20), .fieldAddr 1 (.t 1), some (some 19, false)⟩,
          ⟨(some 21), .load false 1 (.t 20), some (some 19, false)⟩,
          ⟨(some 22), .bin .eql (.t 21) (.c (.int .i64 1)), some (some 19, false)⟩,
          ⟨(some 23), .pick (.t 19) (.c (.bool true)) (.t 22), some (some 15, true)⟩,
          ⟨(some 24), .pick (.t 15) (.t 23) (.c (.bool false)), none⟩,
          ⟨(some 2), .move (.t 24), none⟩])
        .ret)
        (.seq
        (.region [
          ⟨(some 26), .bin .eql (.t 4) (.c (.int .i64 2)), none⟩,
          ⟨(some 25), .move (.t 26), none⟩])
        (.cond (.t 25)
          (.seq
          (.region [
            ⟨(some 27), .fieldAddr 2 (.t 1), none⟩,
            ⟨(some 28), .load false 1 (.t 27), none⟩,
            ⟨(some 29), .bin .eql (.t 28) (.c (.str (bs []))), none⟩,
            ⟨(some 30), .move (.t 29), none⟩,
            ⟨(some 31), .fieldAddr 1 (.t 1), some (some 30, true)⟩,
            ⟨(some 32), .load false 1 (.t 31), some (some 30, true)⟩,
            ⟨(some 33), .bin .geq (.t 32) (.c (.int .i64 (-1073741824))), some (some 30, true)⟩,
            ⟨(some 34), .pick (.t 30) (.t 33) (.c (.bool false)), none⟩,
            ⟨(some 35), .move (.t 34), none⟩,
            ⟨(some 36), .fieldAddr 1 (.t 1), some (some 35, true)⟩,
            ⟨(some 37), .load false 1 (.t 36), some (some 35, true)⟩,
            ⟨(some 38), .bin .leq (.t 37) (.c (.int .i64 1073741824)), some (some 35, true)⟩,
            ⟨(some 39), .pick (.t 35) (.t 38) (.c (.bool false)), none⟩,
            ⟨(some 2), .move (.t 39), none⟩])
          .ret)
          (.seq
          (.region [
            ⟨(some 41), .bin .eql (.t 4) (.c (.int .i64 3)), none⟩,
            ⟨(some 40), .move (.t 41), none⟩])
          (.cond (.t 40)
            (.seq
            (.region [
              ⟨(some 42), .fieldAddr 1 (.t 1), none⟩,
              ⟨(some 43), .load false 1 (.t 42), none⟩,
              ⟨(some 44), .bin .eql (.t 43) (.c (.int .i64 0)), none⟩,
              ⟨(some 45), .move (.t 44), none⟩,
              ⟨(some 46), .fieldAddr 2 (.t 1), some (some 45, true)⟩,
              ⟨(some 47), .load false 1 (.t 46), some (some 45, true)⟩,
              ⟨(some 48), .lenS (.t 47), some (some 45, true)⟩,
              ⟨(some 49), .bin .leq (.t 48) (.c (.int .i64 64)), some (some 45, true)⟩,
              ⟨(some 50), .pick (.t 45) (.t 49) (.c (.bool false)), none⟩,
              ⟨(some 2), .move (.t 50), none⟩])
            .ret)
            (.seq
            (.region [
              ⟨(some 52), .bin .eql (.t 4) (.c (.int .i64 4)), none⟩,
              ⟨(some 51), .move (.t 52), none⟩])
            (.cond (.t 51)
              (.seq
              (.region [
                ⟨(some 53), .fieldAddr 2 (.t 1), none⟩,
                ⟨(some 54), .load false 1 (.t 53), none⟩,
                ⟨(some 55), .bin .eql (.t 54) (.c (.str (bs []))), none⟩,
                ⟨(some 56), .move (.t 55), none⟩,
                ⟨(some 57), .fieldAddr 1 (.t 1), some (some 56, true)⟩,
                ⟨(some 58), .load false 1 (.t 57), some (some 56, true)⟩,
                ⟨(some 59), .bin .geq (.t 58) (.c (.int .i64 0)), some (some 56, true)⟩,
                ⟨(some 60), .pick (.t 56) (.t 59) (.c (.bool false)), none⟩,
                ⟨(some 61), .move (.t 60), none⟩,
                ⟨(some 62), .fieldAddr 1 (.t 1), some (some 61, true)⟩,
                ⟨(some 63), .load false 1 (.t 62), some (some 61, true)⟩,
                ⟨(some 64), .bin .leq (.t 63) (.c (.int .i64 575999999)), some (some 61, true)⟩,
                ⟨(some 65), .pick (.t 61) (.t 64) (.c (.bool false)), none⟩,
                ⟨(some 2), .move (.t 65), none⟩])
              .ret)
              .skip))))))))))))
  (.seq
  (.region [
    ⟨(some 2), .move (.c (.bool false)), none⟩])
  .ret)))⟩

structure F_value_Valid (P : Program) where
  id : FuncId
  has : Has P id [] c_value_Valid

def c_warehouseref1_Valid : AFunc := ⟨71, [.tmp 2],
  (.seq
  (.region [
    ⟨(some 1), .box (.t 0), none⟩,
    ⟨(some 2), .move (.c (.bool false)), none⟩])
  (.seq
  (.seq
  (.region [
    ⟨(some 3), .fieldAddr 0 (.t 1), none⟩,
    ⟨(some 4), .load false 1 (.t 3), none⟩])
  (.block 0
    (.seq
    (.region [
      ⟨(some 6), .bin .eql (.t 4) (.c (.int .i64 0)), none⟩,
      ⟨(some 5), .move (.t 6), none⟩])
    (.cond (.t 5)
      (.seq
      (.region [
        ⟨(some 7), .fieldAddr 1 (.t 1), none⟩,
        ⟨(some 8), .load false 1 (.t 7), none⟩,
        ⟨(some 9), .bin .eql (.t 8) (.c (.int .i64 0)), none⟩,
        ⟨(some 10), .move (.t 9), none⟩,
        ⟨(some 11), .fieldAddr 2 (.t 1), some (some 10, true)⟩,
        ⟨(some 12), .load false 1 (.t 11), some (some 10, true)⟩,
        ⟨(some 13), .bin .eql (.t 12) (.c (.str (bs []))), some (some 10, true)⟩,
        ⟨(some 14), .pick (.t 10) (.t 13) (.c (.bool false)), none⟩,
        ⟨(some 2), .move (.t 14), none⟩])
      .ret)
      (.seq
      (.region [
        ⟨(some 16), .bin .eql (.t 4) (.c (.int .i64 1)), none⟩,
        ⟨(some 15), .move (.t 16), none⟩])
      (.cond (.t 15)
        (.seq
        (.region [
          ⟨(some 17), .fieldAddr 1 (.t 1), none⟩,
          ⟨(some 18), .load false 1 (.t 17), none⟩,
          ⟨(some 19), .bin .eql (.t 18) (.c (.int .i64 0)), none⟩,
          ⟨(some 20), .move (.t 19), none⟩,
          ⟨(some 21), .fieldAddr 1 (.t 1), some (some 20, false)⟩,
          ⟨(some 22), .load false 1 (.t 21), some (some 20, false)⟩,
          ⟨(some 23), .bin .eql (.t 22) (.c (.int .i64 1)), some (some 20, false)⟩,
          ⟨(some 24), .pick (.t 20) (.c (.bool true)) (.t 23), none⟩,
          ⟨(some 25), .move (.t 24), none⟩,
          ⟨(some 26), .fieldAddr 2 (.t 1), some (some 25, true)⟩,
          ⟨(some 27), .load false 1 (.t 26), some (some 25, true)⟩,
          ⟨(some 28), .bin .eql (.t 27) (.c (.str (bs []))), some (some 25, true)⟩,
          ⟨(some 29), .pick (.t 25) (.t 28) (.c (.bool false)), none⟩,
          ⟨(some 2), .move (.t 29), none⟩])
        .ret)
        (.seq
        (.region [
          ⟨(some 31), .bin .eql (.t 4) (.c (.int .i64 2)), none⟩,
          ⟨(some 30), .move (.t 31), none⟩])
        (.cond (.t 30)
          (.seq
          (.region [
            ⟨(some 32), .fieldAddr 1 (.t 1), none⟩,
            ⟨(some 33), .load false 1 (.t 32), none⟩,
            ⟨(some 34), .bin .geq (.t 33) (.c (.int .i64 (-1073741824))), none⟩,
            ⟨(some 35), .move (.t 34), none⟩,
            ⟨(some 36), .fieldAddr 1 (.t 1), some (some 35, true)⟩,
            ⟨(some 37), .load false 1 (.t 36), some (some 35, true)⟩,
            ⟨(some 38), .bin .leq (.t 37) (.c (.int .i64 1073741824)), some (some 35, true)⟩,
            ⟨(some 39), .pick (.t 35) (.t 38) (.c (.bool false)), none⟩,
            ⟨(some 40), .move (.t 39), none⟩,
            ⟨(some 41), .fieldAddr 2 (.t 1), some (some 40, true)⟩,
            ⟨(some 42), .load false 1 (.t 41), some (some 40, true)⟩,
            ⟨(some 43), .bin .eql (.t 42) (.c (.str (bs []))), some (some 40, true)⟩,
            ⟨(some 44), .pick (.t 40) (.t 43) (.c (.bool false)), none⟩,
            ⟨(some 2), .move (.t 44), none⟩])
          .ret)
          (.seq
          (.region [
            ⟨(some 46), .bin .eql (.t 4) (.c (.int .i64 3)), none⟩,
            ⟨(some 45), .move (.t 46), none⟩])
          (.cond (.t 45)
            (.seq
            (.region [
              ⟨(some 47), .fieldAddr 1 (.t 1), none⟩,
              ⟨(some 48), .load false 1 (.t 47), none⟩,
              ⟨(some 49), .bin .eql (.t 48) (.c (.int .i64 0)), none⟩,
              ⟨(some 50), .move (.t 49), none⟩,
              ⟨(some 51), .fieldAddr 2 (.t 1), some (some 50, true)⟩,
              ⟨(some 52), .load false 1 (.t 51), some (some 50, true)⟩,
              ⟨(some 53), .lenS (.t 52), some (some 50, true)⟩,
              ⟨(some 54), .bin .leq (.t 53) (.c (.int .i64 64)), some (some 50, true)⟩,
              ⟨(some 55), .pick (.t 50) (.t 54) (.c (.bool false)), none⟩,
              ⟨(some 2), .move (.t 55), none⟩])
            .ret)
            (.seq
            (.region [
              ⟨(some 57), .bin .eql (.t 4) (.c (.int .i64 4)), none⟩,
              ⟨(some 56), .move (.t 57), none⟩])
            (.cond (.t 56)
              (.seq
              (.region [
                ⟨(some 58), .fieldAddr 1 (.t 1), none⟩,
                ⟨(some 59), .load false 1 (.t 58), none⟩,
                ⟨(some 60), .bin .geq (.t 59) (.c (.int .i64 0)), none⟩,
                ⟨(some 61), .move (.t 60), none⟩,
                ⟨(some 62), .fieldAddr 1 (.t 1), some (some 61, true)⟩,
                ⟨(some 63), .load false 1 (.t 62), some (some 61, true)⟩,
                ⟨(some 64), .bin .leq (.t 63) (.c (.int .i64 575999999)), some (some 61, true)⟩,
                ⟨(some 65), .pick (.t 61) (.t 64) (.c (.bool false)), none⟩,
                ⟨(some 66), .move (.t 65), none⟩,
                ⟨(some 67), .fieldAddr 2 (.t 1), some (some 66, true)⟩,
                ⟨(some 68), .load false 1 (.t 67), some (some 66, true)⟩,
                ⟨(some 69), .bin .eql (.t 68) (.c (.str (bs []))), some (some 66, true)⟩,
                ⟨(some 70), .pick (.t 66) (.t 69) (.c (.bool false)), none⟩,
                ⟨(some 2), .move (.t 70), none⟩])
              .ret)
              .skip))))))))))))
  (.seq
  (.region [
    ⟨(some 2), .move (.c (.bool false)), none⟩])
  .ret)))⟩

structure F_warehouseref1_Valid (P : Program) where
  id : FuncId
  has : Has P id [] c_warehouseref1_Valid

def c_value_word : AFunc := ⟨19, [.tmp 4],
  (.seq
  (.region [
    ⟨(some 4), .move (.c .nil), none⟩])
  (.seq
  (.region [
    ⟨(some 5), .move (.t 0), none⟩,
    ⟨(some 6), .move (.t 1), none⟩,
    ⟨(some 7), .bin .shr (.t 6) (.c (.int .u64 24)), none⟩,
    ⟨(some 8), .conv .u8 (.t 7), none⟩,
    ⟨(some 9), .move (.t 1), none⟩,
    ⟨(some 10), .bin .shr (.t 9) (.c (.int .u64 16)), none⟩,
    ⟨(some 11), .conv .u8 (.t 10), none⟩,
    ⟨(some 12), .move (.t 1), none⟩,
    ⟨(some 13), .bin .shr (.t 12) (.c (.int .u64 8)), none⟩,
    ⟨(some 14), .conv .u8 (.t 13), none⟩,
    ⟨(some 15), .move (.t 1), none⟩,
    ⟨(some 16), .conv .u8 (.t 15), none⟩,
    ⟨(some 17), .buildSlice 1 4 [(.int .u8 0)] [(0, (.t 8)), (1, (.t 11)), (2, (.t 14)), (3, (.t 16))], none⟩,
    ⟨(some 18), .append 1 1 [(.int .u8 0)] (.t 5) (.t 17), none⟩,
    ⟨(some 4), .move (.t 18), none⟩])
  .ret))⟩

structure F_value_word (P : Program) where
  id : FuncId
  has : Has P id [] c_value_word

def c_value_Encode (f_value_Valid : FuncId) (f_value_word : FuncId) : AFunc := ⟨67, [.tmp 2, .tmp 3],
  (.seq
  (.region [
    ⟨(some 2), .move (.c .nil), none⟩,
    ⟨(some 3), .move (.c (.int .i64 0)), none⟩])
  (.seq
  (.seq
  (.region [
    ⟨(some 7), .move (.t 0), none⟩,
    ⟨(some 8), .len (.t 7), none⟩,
    ⟨(some 9), .bin .gtr (.t 8) (.c (.int .i64 12)), none⟩])
  (.cond (.t 9)
    (.seq
    (.region [
      ⟨(some 2), .move (.c .nil), none⟩,
      ⟨(some 3), .move (.c (.int .i64 2)), none⟩])
    .ret)
    .skip))
  (.seq
  (.region [
    ⟨(some 10), .move (.t 0), none⟩,
    ⟨(some 11), .len (.t 10), none⟩,
    ⟨(some 12), .conv .u8 (.t 11), none⟩,
    ⟨(some 13), .buildSliceO 1 1 [(.int .u8 0)] [(0, (.t 12))], none⟩,
    ⟨(some 4), .move (.t 13), none⟩])
  (.seq
  (.seq
  (.region [
    ⟨(some 14), .move (.t 0), none⟩,
    ⟨(some 15), .len (.t 14), none⟩,
    ⟨(some 16), .move (.c (.int .i64 0)), none⟩])
  (.block 0
    (.loop
      (.seq
      (.region [
        ⟨(some 17), .bin .lss (.t 16) (.t 15), none⟩])
      (.seq
      (.cond (.t 17)
        .skip
        (.exit 0))
      (.seq
      (.block 1
        (.seq
        (.region [
          ⟨(some 18), .indexAddr 3 (.t 14) (.t 16), none⟩,
          ⟨(some 19), .load true 3 (.t 18), none⟩,
          ⟨(some 6), .alloc [(.int .i64 0), (.int .i64 0), (.str (bs []))], none⟩,
          ⟨none, .store 3 (.t 6) (.t 19), none⟩])
        (.seq
        (.seq
        (.region [
          ⟨(some 20), .load true 3 (.t 6), none⟩,
          ⟨(some 21), .call f_value_Valid [(.t 20)], none⟩,
          ⟨(some 22), .un .not (.t 21), none⟩])
        (.cond (.t 22)
          (.seq
          (.region [
            ⟨(some 2), .move (.c .nil), none⟩,
            ⟨(some 3), .move (.c (.int .i64 8)), none⟩])
          .ret)
          .skip))
        (.seq
        (.region [
          ⟨(some 23), .move (.t 4), none⟩,
          ⟨(some 24), .fieldAddr 0 (.t 6), none⟩,
          ⟨(some 25), .load false 1 (.t 24), none⟩,
          ⟨(some 26), .conv .u8 (.t 25), none⟩,
          ⟨(some 27), .buildSlice 1 1 [(.int .u8 0)] [(0, (.t 26))], none⟩,
          ⟨(some 28), .append 1 1 [(.int .u8 0)] (.t 23) (.t 27), none⟩,
          ⟨(some 4), .move (.t 28), none⟩])
        (.seq
        (.region [
          ⟨(some 29), .fieldAddr 0 (.t 6), none⟩,
          ⟨(some 30), .load false 1 (.t 29), none⟩])
        (.block 2
          (.seq
          (.region [
            ⟨(some 32), .bin .eql (.t 30) (.c (.int .i64 1)), none⟩,
            ⟨(some 31), .move (.t 32), none⟩])
          (.cond (.t 31)
            (.region [
              ⟨(some 33), .move (.t 4), none⟩,
              ⟨(some 34), .fieldAddr 1 (.t 6), none⟩,
              ⟨(some 35), .load false 1 (.t 34), none⟩,
              ⟨(some 36), .conv .u8 (.t 35), none⟩,
              ⟨(some 37), .buildSlice 1 1 [(.int .u8 0)] [(0, (.t 36))], none⟩,
              ⟨(some 38), .append 1 1 [(.int .u8 0)] (.t 33) (.t 37), none⟩,
              ⟨(some 4), .move (.t 38), none⟩])
            (.seq
            (.region [
              ⟨(some 40), .bin .eql (.t 30) (.c (.int .i64 2)), none⟩,
              ⟨(some 39), .move (.t 40), none⟩])
            (.cond (.t 39)
              (.region [
                ⟨(some 41), .move (.t 4), none⟩,
                ⟨(some 42), .fieldAddr 1 (.t 6), none⟩,
                ⟨(some 43), .load false 1 (.t 42), none⟩,
                ⟨(some 44), .bin .add (.t 43) (.c (.int .i64 1073741824)), none⟩,
                ⟨(some 45), .call f_value_word [(.t 41), (.t 44)], none⟩,
                ⟨(some 4), .move (.t 45), none⟩])
              (.seq
              (.region [
                ⟨(some 47), .bin .eql (.t 30) (.c (.int .i64 4)), none⟩,
                ⟨(some 46), .move (.t 47), none⟩])
              (.cond (.t 46)
                (.region [
                  ⟨(some 48), .move (.t 4), none⟩,
                  ⟨(some 49), .fieldAddr 1 (.t 6), none⟩,
                  ⟨(some 50), .load false 1 (.t 49), none⟩,
                  ⟨(some 51), .call f_value_word [(.t 48), (.t 50)], none⟩,
                  ⟨(some 4), .move (.t 51), none⟩])
                (.seq
                (.region [
                  ⟨(some 53), .bin .eql (.t 30) (.c (.int .i64 3)), none⟩,
                  ⟨(some 52), .move (.t 53), none⟩])
                (.cond (.t 52)
                  (.seq
                  (.region [
                    ⟨(some 54), .move (.t 4), none⟩,
                    ⟨(some 55), .fieldAddr 2 (.t 6), none⟩,
                    ⟨(some 56), .load false 1 (.t 55), none⟩,
                    ⟨(some 57), .lenS (.t 56), none⟩,
                    ⟨(some 58), .conv .u8 (.t 57), none⟩,
                    ⟨(some 59), .buildSlice 1 1 [(.int .u8 0)] [(0, (.t 58))], none⟩,
                    ⟨(some 60), .append 1 1 [(.int .u8 0)] (.t 54) (.t 59), none⟩,
                    ⟨(some 4), .move (.t 60), none⟩])
                  (.region [
                    ⟨(some 61), .move (.t 4), none⟩,
                    ⟨(some 62), .fieldAddr 2 (.t 6), none⟩,
                    ⟨(some 63), .load false 1 (.t 62), none⟩,
                    ⟨(some 64), .append 1 1 [(.int .u8 0)] (.t 61) (.t 63), none⟩,
                    ⟨(some 4), .move (.t 64), none⟩]))
                  .skip))))))))))))))
      (.region [
        ⟨(some 65), .bin .add (.t 16) (.c (.int .i64 1)), none⟩,
        ⟨(some 16), .move (.t 65), none⟩])))))))
  (.seq
  (.region [
    ⟨(some 66), .move (.t 4), none⟩,
    ⟨(some 2), .move (.t 66), none⟩,
    ⟨(some 3), .move (.c (.int .i64 0)), none⟩])
  .ret)))))⟩

structure F_value_Encode (P : Program) where
  id : FuncId
  value_Valid : F_value_Valid P
  value_word : F_value_word P
  has : Has P id [13] (c_value_Encode value_Valid.id value_word.id)

def c_cmp_isNaN_int : AFunc := ⟨6, [.tmp 2],
  (.seq
  (.region [
    ⟨(some 2), .move (.c (.bool false)), none⟩])
  (.seq
  (.region [
    ⟨(some 3), .move (.t 0), none⟩,
    ⟨(some 4), .move (.t 0), none⟩,
    ⟨(some 5), .bin .neq (.t 3) (.t 4), none⟩,
    ⟨(some 2), .move (.t 5), none⟩])
  .ret))⟩

structure F_cmp_isNaN_int (P : Program) where
  id : FuncId
  has : Has P id [] c_cmp_isNaN_int

def c_cmp_Compare_int (f_cmp_isNaN_int : FuncId) : AFunc := ⟨20, [.tmp 4],
  (.seq
  (.region [
    ⟨(some 4), .move (.c (.int .i64 0)), none⟩])
  (.seq
  (.region [
    ⟨(some 7), .move (.t 0), none⟩,
    ⟨(some 8), .call f_cmp_isNaN_int [(.t 7)], none⟩,
    ⟨(some 5), .move (.t 8), none⟩])
  (.seq
  (.region [
    ⟨(some 9), .move (.t 1), none⟩,
    ⟨(some 10), .call f_cmp_isNaN_int [(.t 9)], none⟩,
    ⟨(some 6), .move (.t 10), none⟩])
  (.seq
  (.seq
  (.region [
    ⟨(some 11), .move (.t 5), none⟩])
  (.cond (.t 11)
    (.seq
    (.seq
    (.region [
      ⟨(some 12), .move (.t 6), none⟩])
    (.cond (.t 12)
      (.seq
      (.region [
        ⟨(some 4), .move (.c (.int .i64 0)), none⟩])
      .ret)
      .skip))
    (.seq
    (.region [
      ⟨(some 4), .move (.c (.int .i64 (-1))), none⟩])
    .ret))
    .skip))
  (.seq
  (.seq
  (.region [
    ⟨(some 13), .move (.t 6), none⟩])
  (.cond (.t 13)
    (.seq
    (.region [
      ⟨(some 4), .move (.c (.int .i64 1)), none⟩])
    .ret)
    .skip))
  (.seq
  (.seq
  (.region [
    ⟨(some 14), .move (.t 0), none⟩,
    ⟨(some 15), .move (.t 1), none⟩,
    ⟨(some 16), .bin .lss (.t 14) (.t 15), none⟩])
  (.cond (.t 16)
    (.seq
    (.region [
      ⟨(some 4), .move (.c (.int .i64 (-1))), none⟩])
    .ret)
    .skip))
  (.seq
  (.seq
  (.region [
    ⟨(some 17), .move (.t 0), none⟩,
    ⟨(some 18), .move (.t 1), none⟩,
    ⟨(some 19), .bin .gtr (.t 17) (.t 18), none⟩])
  (.cond (.t 19)
    (.seq
    (.region [
      ⟨(some 4), .move (.c (.int .i64 1)), none⟩])
    .ret)
    .skip))
  (.seq
  (.region [
    ⟨(some 4), .move (.c (.int .i64 0)), none⟩])
  .ret))))))))⟩

structure F_cmp_Compare_int (P : Program) where
  id : FuncId
  cmp_isNaN_int : F_cmp_isNaN_int P
  has : Has P id [] (c_cmp_Compare_int cmp_isNaN_int.id)

def c_cmp_isNaN_string : AFunc := ⟨6, [.tmp 2],
  (.seq
  (.region [
    ⟨(some 2), .move (.c (.bool false)), none⟩])
  (.seq
  (.region [
    ⟨(some 3), .move (.t 0), none⟩,
    ⟨(some 4), .move (.t 0), none⟩,
    ⟨(some 5), .bin .neq (.t 3) (.t 4), none⟩,
    ⟨(some 2), .move (.t 5), none⟩])
  .ret))⟩

structure F_cmp_isNaN_string (P : Program) where
  id : FuncId
  has : Has P id [] c_cmp_isNaN_string

def c_cmp_Compare_string (f_cmp_isNaN_string : FuncId) : AFunc := ⟨20, [.tmp 4],
  (.seq
  (.region [
    ⟨(some 4), .move (.c (.int .i64 0)), none⟩])
  (.seq
  (.region [
    ⟨(some 7), .move (.t 0), none⟩,
    ⟨(some 8), .call f_cmp_isNaN_string [(.t 7)], none⟩,
    ⟨(some 5), .move (.t 8), none⟩])
  (.seq
  (.region [
    ⟨(some 9), .move (.t 1), none⟩,
    ⟨(some 10), .call f_cmp_isNaN_string [(.t 9)], none⟩,
    ⟨(some 6), .move (.t 10), none⟩])
  (.seq
  (.seq
  (.region [
    ⟨(some 11), .move (.t 5), none⟩])
  (.cond (.t 11)
    (.seq
    (.seq
    (.region [
      ⟨(some 12), .move (.t 6), none⟩])
    (.cond (.t 12)
      (.seq
      (.region [
        ⟨(some 4), .move (.c (.int .i64 0)), none⟩])
      .ret)
      .skip))
    (.seq
    (.region [
      ⟨(some 4), .move (.c (.int .i64 (-1))), none⟩])
    .ret))
    .skip))
  (.seq
  (.seq
  (.region [
    ⟨(some 13), .move (.t 6), none⟩])
  (.cond (.t 13)
    (.seq
    (.region [
      ⟨(some 4), .move (.c (.int .i64 1)), none⟩])
    .ret)
    .skip))
  (.seq
  (.seq
  (.region [
    ⟨(some 14), .move (.t 0), none⟩,
    ⟨(some 15), .move (.t 1), none⟩,
    ⟨(some 16), .bin .lss (.t 14) (.t 15), none⟩])
  (.cond (.t 16)
    (.seq
    (.region [
      ⟨(some 4), .move (.c (.int .i64 (-1))), none⟩])
    .ret)
    .skip))
  (.seq
  (.seq
  (.region [
    ⟨(some 17), .move (.t 0), none⟩,
    ⟨(some 18), .move (.t 1), none⟩,
    ⟨(some 19), .bin .gtr (.t 17) (.t 18), none⟩])
  (.cond (.t 19)
    (.seq
    (.region [
      ⟨(some 4), .move (.c (.int .i64 1)), none⟩])
    .ret)
    .skip))
  (.seq
  (.region [
    ⟨(some 4), .move (.c (.int .i64 0)), none⟩])
  .ret))))))))⟩

structure F_cmp_Compare_string (P : Program) where
  id : FuncId
  cmp_isNaN_string : F_cmp_isNaN_string P
  has : Has P id [] (c_cmp_Compare_string cmp_isNaN_string.id)

def c_cmp_Or_int : AFunc := ⟨18, [.tmp 2],
  (.seq
  (.region [
    ⟨(some 2), .move (.c (.int .i64 0)), none⟩])
  (.seq
  (.region [
    ⟨(some 3), .move (.c (.int .i64 0)), none⟩])
  (.seq
  (.seq
  (.region [
    ⟨(some 6), .move (.t 0), none⟩,
    ⟨(some 7), .len (.t 6), none⟩,
    ⟨(some 8), .move (.c (.int .i64 0)), none⟩])
  (.block 0
    (.loop
      (.seq
      (.region [
        ⟨(some 9), .bin .lss (.t 8) (.t 7), none⟩])
      (.seq
      (.cond (.t 9)
        .skip
        (.exit 0))
      (.seq
      (.block 1
        (.seq
        (.region [
          ⟨(some 10), .indexAddr 1 (.t 6) (.t 8), none⟩,
          ⟨(some 11), .load false 1 (.t 10), none⟩,
          ⟨(some 5), .move (.t 11), none⟩])
        (.seq
        (.region [
          ⟨(some 12), .move (.t 5), none⟩,
          ⟨(some 13), .move (.t 3), none⟩,
          ⟨(some 14), .bin .neq (.t 12) (.t 13), none⟩])
        (.cond (.t 14)
          (.seq
          (.region [
            ⟨(some 15), .move (.t 5), none⟩,
            ⟨(some 2), .move (.t 15), none⟩])
          .ret)
          .skip))))
      (.region [
        ⟨(some 16), .bin .add (.t 8) (.c (.int .i64 1)), none⟩,
        ⟨(some 8), .move (.t 16), none⟩])))))))
  (.seq
  (.region [
    ⟨(some 17), .move (.t 3), none⟩,
    ⟨(some 2), .move (.t 17), none⟩])
  .ret))))⟩

structure F_cmp_Or_int (P : Program) where
  id : FuncId
  has : Has P id [] c_cmp_Or_int

def c_value_Compare (f_cmp_Compare_int : FuncId) (f_cmp_Compare_string : FuncId) (f_cmp_Or_int : FuncId) : AFunc := ⟨22, [.tmp 4],
  (.seq
  (.region [
    ⟨(some 2), .box (.t 0), none⟩,
    ⟨(some 3), .box (.t 1), none⟩,
    ⟨(some 4), .move (.c (.int .i64 0)), none⟩])
  (.seq
  (.draw [
    (⟨(some 5), .fieldAddr 0 (.t 2), none⟩, []),
    (⟨(some 6), .load false 1 (.t 5), none⟩, []),
    (⟨(some 7), .fieldAddr 0 (.t 3), none⟩, []),
    (⟨(some 8), .load false 1 (.t 7), none⟩, []),
    (⟨(some 9), .call f_cmp_Compare_int [(.t 6), (.t 8)], none⟩, []),
    (⟨(some 10), .fieldAddr 1 (.t 2), none⟩, []),
    (⟨(some 11), .load false 1 (.t 10), none⟩, []),
    (⟨(some 12), .fieldAddr 1 (.t 3), none⟩, []),
    (⟨(some 13), .load false 1 (.t 12), none⟩, []),
    (⟨(some 14), .call f_cmp_Compare_int [(.t 11), (.t 13)], none⟩, []),
    (⟨(some 15), .fieldAddr 2 (.t 2), none⟩, []),
    (⟨(some 16), .load false 1 (.t 15), none⟩, []),
    (⟨(some 17), .fieldAddr 2 (.t 3), none⟩, []),
    (⟨(some 18), .load false 1 (.t 17), none⟩, []),
    (⟨(some 19), .call f_cmp_Compare_string [(.t 16), (.t 18)], none⟩, []),
    (⟨(some 20), .buildSlice 1 3 [(.int .i64 0)] [(0, (.t 9)), (1, (.t 14)), (2, (.t 19))], none⟩, []),
    (⟨(some 21), .call f_cmp_Or_int [(.t 20)], none⟩, []),
    (⟨(some 4), .move (.t 21), none⟩, [])])
  .ret))⟩

structure F_value_Compare (P : Program) where
  id : FuncId
  cmp_Compare_int : F_cmp_Compare_int P
  cmp_Compare_string : F_cmp_Compare_string P
  cmp_Or_int : F_cmp_Or_int P
  has : Has P id [] (c_value_Compare cmp_Compare_int.id cmp_Compare_string.id cmp_Or_int.id)

def c_warehouseref1_numbers : AFunc := ⟨13, [.tmp 4],
  (.seq
  (.region [
    ⟨(some 4), .move (.c (.int .i64 0)), none⟩])
  (.seq
  (.block 0
    (.seq
    (.region [
      ⟨(some 6), .move (.t 0), none⟩,
      ⟨(some 7), .move (.t 1), none⟩,
      ⟨(some 8), .bin .lss (.t 6) (.t 7), none⟩,
      ⟨(some 5), .move (.t 8), none⟩])
    (.cond (.t 5)
      (.seq
      (.region [
        ⟨(some 4), .move (.c (.int .i64 (-1))), none⟩])
      .ret)
      (.seq
      (.region [
        ⟨(some 10), .move (.t 0), none⟩,
        ⟨(some 11), .move (.t 1), none⟩,
        ⟨(some 12), .bin .gtr (.t 10) (.t 11), none⟩,
        ⟨(some 9), .move (.t 12), none⟩])
      (.cond (.t 9)
        (.seq
        (.region [
          ⟨(some 4), .move (.c (.int .i64 1)), none⟩])
        .ret)
        .skip)))))
  (.seq
  (.region [
    ⟨(some 4), .move (.c (.int .i64 0)), none⟩])
  .ret)))⟩

structure F_warehouseref1_numbers (P : Program) where
  id : FuncId
  has : Has P id [] c_warehouseref1_numbers

def c_warehouseref1_Compare (f_warehouseref1_numbers : FuncId) : AFunc := ⟨35, [.tmp 4],
  (.seq
  (.region [
    ⟨(some 2), .box (.t 0), none⟩,
    ⟨(some 3), .box (.t 1), none⟩,
    ⟨(some 4), .move (.c (.int .i64 0)), none⟩])
  (.seq
  (.seq
  (.region [
    ⟨(some 7), .fieldAddr 0 (.t 2), none⟩,
    ⟨(some 8), .load false 1 (.t 7), none⟩,
    ⟨(some 9), .fieldAddr 0 (.t 3), none⟩,
    ⟨(some 10), .load false 1 (.t 9), none⟩,
    ⟨(some 11), .call f_warehouseref1_numbers [(.t 8), (.t 10)], none⟩,
    ⟨(some 5), .move (.t 11), none⟩])
  (.seq
  (.region [
    ⟨(some 12), .move (.t 5), none⟩,
    ⟨(some 13), .bin .neq (.t 12) (.c (.int .i64 0)), none⟩])
  (.cond (.t 13)
    (.seq
    (.region [
      ⟨(some 14), .move (.t 5), none⟩,
      ⟨(some 4), .move (.t 14), none⟩])
    .ret)
    .skip)))
  (.seq
  (.seq
  (.region [
    ⟨(some 15), .fieldAddr 1 (.t 2), none⟩,
    ⟨(some 16), .load false 1 (.t 15), none⟩,
    ⟨(some 17), .fieldAddr 1 (.t 3), none⟩,
    ⟨(some 18), .load false 1 (.t 17), none⟩,
    ⟨(some 19), .call f_warehouseref1_numbers [(.t 16), (.t 18)], none⟩,
    ⟨(some 6), .move (.t 19), none⟩])
  (.seq
  (.region [
    ⟨(some 20), .move (.t 6), none⟩,
    ⟨(some 21), .bin .neq (.t 20) (.c (.int .i64 0)), none⟩])
  (.cond (.t 21)
    (.seq
    (.region [
      ⟨(some 22), .move (.t 6), none⟩,
      ⟨(some 4), .move (.t 22), none⟩])
    .ret)
    .skip)))
  (.seq
  (.block 0
    (.seq
    (.region [
      ⟨(some 24), .fieldAddr 2 (.t 2), none⟩,
      ⟨(some 25), .load false 1 (.t 24), none⟩,
      ⟨(some 26), .fieldAddr 2 (.t 3), none⟩,
      ⟨(some 27), .load false 1 (.t 26), none⟩,
      ⟨(some 28), .bin .lss (.t 25) (.t 27), none⟩,
      ⟨(some 23), .move (.t 28), none⟩])
    (.cond (.t 23)
      (.seq
      (.region [
        ⟨(some 4), .move (.c (.int .i64 (-1))), none⟩])
      .ret)
      (.seq
      (.region [
        ⟨(some 30), .fieldAddr 2 (.t 2), none⟩,
        ⟨(some 31), .load false 1 (.t 30), none⟩,
        ⟨(some 32), .fieldAddr 2 (.t 3), none⟩,
        ⟨(some 33), .load false 1 (.t 32), none⟩,
        ⟨(some 34), .bin .gtr (.t 31) (.t 33), none⟩,
        ⟨(some 29), .move (.t 34), none⟩])
      (.cond (.t 29)
        (.seq
        (.region [
          ⟨(some 4), .move (.c (.int .i64 1)), none⟩])
        .ret)
        .skip)))))
  (.seq
  (.region [
    ⟨(some 4), .move (.c (.int .i64 0)), none⟩])
  .ret)))))⟩

structure F_warehouseref1_Compare (P : Program) where
  id : FuncId
  warehouseref1_numbers : F_warehouseref1_numbers P
  has : Has P id [] (c_warehouseref1_Compare warehouseref1_numbers.id)

def c_warehousebase_At : AFunc := ⟨24, [.tmp 4],
  (.seq
  (.region [
    ⟨(some 4), .move (.c (.int .i64 0)), none⟩])
  (.seq
  (.region [
    ⟨(some 5), .move (.t 1), none⟩,
    ⟨(some 6), .bin .and (.t 5) (.c (.int .i64 65535)), none⟩,
    ⟨(some 1), .move (.t 6), none⟩])
  (.seq
  (.seq
  (.region [
    ⟨(some 7), .move (.t 0), none⟩,
    ⟨(some 8), .len (.t 7), none⟩,
    ⟨(some 9), .bin .eql (.t 8) (.c (.int .i64 0)), none⟩])
  (.cond (.t 9)
    (.seq
    (.region [
      ⟨(some 10), .move (.t 1), none⟩,
      ⟨(some 4), .move (.t 10), none⟩])
    .ret)
    .skip))
  (.seq
  (.draw [
    (⟨(some 11), .move (.t 0), none⟩, []),
    (⟨(some 12), .move (.t 1), none⟩, []),
    (⟨(some 13), .move (.t 0), none⟩, []),
    (⟨(some 14), .len (.t 13), none⟩, []),
    (⟨(some 15), .bin .rem (.t 12) (.t 14), none⟩, []),
    (⟨(some 16), .indexAddr 1 (.t 11) (.t 15), none⟩, []),
    (⟨(some 17), .load false 1 (.t 16), none⟩, []),
    (⟨(some 18), .bin .and (.t 17) (.c (.int .i64 65535)), none⟩, []),
    (⟨(some 19), .move (.t 1), none⟩, []),
    (⟨(some 20), .move (.t 0), none⟩, []),
    (⟨(some 21), .len (.t 20), none⟩, []),
    (⟨(some 22), .bin .quo (.t 19) (.t 21), none⟩, []),
    (⟨(some 23), .bin .add (.t 18) (.t 22), none⟩, []),
    (⟨(some 4), .move (.t 23), none⟩, [])])
  .ret))))⟩

structure F_warehousebase_At (P : Program) where
  id : FuncId
  has : Has P id [] c_warehousebase_At

def c_slices_CompareFunc_LValue_Value : AFunc := ⟨39, [.tmp 6],
  (.seq
  (.region [
    ⟨(some 6), .move (.c (.int .i64 0)), none⟩])
  (.seq
  (.seq
  (.region [
    ⟨(some 11), .move (.t 0), none⟩,
    ⟨(some 12), .len (.t 11), none⟩,
    ⟨(some 13), .move (.c (.int .i64 0)), none⟩])
  (.block 0
    (.loop
      (.seq
      (.region [
        ⟨(some 14), .bin .lss (.t 13) (.t 12), none⟩])
      (.seq
      (.cond (.t 14)
        .skip
        (.exit 0))
      (.seq
      (.block 1
        (.seq
        (.region [
          ⟨(some 15), .move (.t 13), none⟩,
          ⟨(some 16), .indexAddr 3 (.t 11) (.t 13), none⟩,
          ⟨(some 17), .load true 3 (.t 16), none⟩,
          ⟨(some 8), .alloc [(.int .i64 0), (.int .i64 0), (.str (bs []))], none⟩,
          ⟨(some 7), .move (.t 15), none⟩,
          ⟨none, .store 3 (.t 8) (.t 17), none⟩])
        (.seq
        (.seq
        (.region [
          ⟨(some 18), .move (.t 7), none⟩,
          ⟨(some 19), .move (.t 1), none⟩,
          ⟨(some 20), .len (.t 19), none⟩,
          ⟨(some 21), .bin .geq (.t 18) (.t 20), none⟩])
        (.cond (.t 21)
          (.seq
          (.region [
            ⟨(some 6), .move (.c (.int .i64 1)), none⟩])
          .ret)
          .skip))
        (.seq
        (.region [
          ⟨(some 22), .move (.t 1), none⟩,
          ⟨(some 23), .move (.t 7), none⟩,
          ⟨(some 24), .indexAddr 3 (.t 22) (.t 23), none⟩,
          ⟨(some 25), .load true 3 (.t 24), none⟩,
          ⟨(some 9), .alloc [(.int .i64 0), (.int .i64 0), (.str (bs []))], none⟩,
          ⟨none, .store 3 (.t 9) (.t 25), none⟩])
        (.seq
        (.region [
          ⟨(some 26), .move (.t 2), none⟩,
          ⟨(some 27), .load true 3 (.t 8), none⟩,
          ⟨(some 28), .load true 3 (.t 9), none⟩,
          ⟨(some 29), .callv (.t 26) [(.t 27), (.t 28)], none⟩,
          ⟨(some 10), .move (.t 29), none⟩])
        (.seq
        (.region [
          ⟨(some 30), .move (.t 10), none⟩,
          ⟨(some 31), .bin .neq (.t 30) (.c (.int .i64 0)), none⟩])
        (.cond (.t 31)
          (.seq
          (.region [
            ⟨(some 32), .move (.t 10), none⟩,
            ⟨(some 6), .move (.t 32), none⟩])
          .ret)
          .skip)))))))
      (.region [
        ⟨(some 33), .bin .add (.t 13) (.c (.int .i64 1)), none⟩,
        ⟨(some 13), .move (.t 33), none⟩])))))))
  (.seq
  (.seq
  (.region [
    ⟨(some 34), .move (.t 0), none⟩,
    ⟨(some 35), .len (.t 34), none⟩,
    ⟨(some 36), .move (.t 1), none⟩,
    ⟨(some 37), .len (.t 36), none⟩,
    ⟨(some 38), .bin .lss (.t 35) (.t 37), none⟩])
  (.cond (.t 38)
    (.seq
    (.region [
      ⟨(some 6), .move (.c (.int .i64 (-1))), none⟩])
    .ret)
    .skip))
  (.seq
  (.region [
    ⟨(some 6), .move (.c (.int .i64 0)), none⟩])
  .ret))))⟩

structure F_slices_CompareFunc_LValue_Value (P : Program) where
  id : FuncId
  has : Has P id [] c_slices_CompareFunc_LValue_Value

def c_value_CompareRows (f_slices_CompareFunc_LValue_Value : FuncId) (f_value_Compare : FuncId) : AFunc := ⟨8, [.tmp 4],
  (.seq
  (.region [
    ⟨(some 4), .move (.c (.int .i64 0)), none⟩])
  (.seq
  (.region [
    ⟨(some 5), .move (.t 0), none⟩,
    ⟨(some 6), .move (.t 1), none⟩,
    ⟨(some 7), .call f_slices_CompareFunc_LValue_Value [(.t 5), (.t 6), (.c (.fn f_value_Compare []))], none⟩,
    ⟨(some 4), .move (.t 7), none⟩])
  .ret))⟩

structure F_value_CompareRows (P : Program) where
  id : FuncId
  slices_CompareFunc_LValue_Value : F_slices_CompareFunc_LValue_Value P
  value_Compare : F_value_Compare P
  has : Has P id [] (c_value_CompareRows slices_CompareFunc_LValue_Value.id value_Compare.id)

def c_warehouseref1_CompareRows (f_warehouseref1_Compare : FuncId) (f_warehouseref1_numbers : FuncId) : AFunc := ⟨36, [.tmp 4],
  (.seq
  (.region [
    ⟨(some 4), .move (.c (.int .i64 0)), none⟩])
  (.seq
  (.seq
  (.region [
    ⟨(some 5), .move (.c (.int .i64 0)), none⟩])
  (.block 0
    (.loop
      (.seq
      (.seq
      (.region [
        ⟨(some 7), .move (.t 5), none⟩,
        ⟨(some 8), .move (.t 0), none⟩,
        ⟨(some 9), .len (.t 8), none⟩,
        ⟨(some 10), .bin .lss (.t 7) (.t 9), none⟩,
        ⟨(some 11), .move (.t 10), none⟩,
        ⟨(some 12), .move (.t 5), some (some 11, true)⟩,
        ⟨(some 13), .move (.t 1), some (some 11, true)⟩,
        ⟨(some 14), .len (.t 13), some (some 11, true)⟩,
        ⟨(some 15), .bin .lss (.t 12) (.t 14), some (some 11, true)⟩,
        ⟨(some 16), .pick (.t 11) (.t 15) (.c (.bool false)), none⟩])
      (.cond (.t 16)
        .skip
        (.exit 0)))
      (.seq
      (.block 1
        (.seq
        (.draw [
          (⟨(some 19), .move (.t 0), none⟩, []),
          (⟨(some 20), .move (.t 5), none⟩, []),
          (⟨(some 21), .indexAddr 3 (.t 19) (.t 20), none⟩, []),
          (⟨(some 22), .load true 3 (.t 21), none⟩, []),
          (⟨(some 23), .move (.t 1), none⟩, []),
          (⟨(some 24), .move (.t 5), none⟩, []),
          (⟨(some 25), .indexAddr 3 (.t 23) (.t 24), none⟩, []),
          (⟨(some 26), .load true 3 (.t 25), none⟩, []),
          (⟨(some 27), .call f_warehouseref1_Compare [(.t 22), (.t 26)], none⟩, []),
          (⟨(some 6), .move (.t 27), none⟩, [])])
        (.seq
        (.region [
          ⟨(some 28), .move (.t 6), none⟩,
          ⟨(some 29), .bin .neq (.t 28) (.c (.int .i64 0)), none⟩])
        (.cond (.t 29)
          (.seq
          (.region [
            ⟨(some 30), .move (.t 6), none⟩,
            ⟨(some 4), .move (.t 30), none⟩])
          .ret)
          .skip))))
      (.region [
        ⟨(some 17), .move (.t 5), none⟩,
        ⟨(some 18), .bin .add (.t 17) (.c (.int .i64 1)), none⟩,
        ⟨(some 5), .move (.t 18), none⟩]))))))
  (.seq
  (.region [
    ⟨(some 31), .move (.t 0), none⟩,
    ⟨(some 32), .len (.t 31), none⟩,
    ⟨(some 33), .move (.t 1), none⟩,
    ⟨(some 34), .len (.t 33), none⟩,
    ⟨(some 35), .call f_warehouseref1_numbers [(.t 32), (.t 34)], none⟩,
    ⟨(some 4), .move (.t 35), none⟩])
  .ret)))⟩

structure F_warehouseref1_CompareRows (P : Program) where
  id : FuncId
  warehouseref1_Compare : F_warehouseref1_Compare P
  warehouseref1_numbers : F_warehouseref1_numbers P
  has : Has P id [] (c_warehouseref1_CompareRows warehouseref1_Compare.id warehouseref1_numbers.id)

def c_warehouseref1_SameRow (f_warehouseref1_CompareRows : FuncId) : AFunc := ⟨9, [.tmp 4],
  (.seq
  (.region [
    ⟨(some 4), .move (.c (.bool false)), none⟩])
  (.seq
  (.region [
    ⟨(some 5), .move (.t 0), none⟩,
    ⟨(some 6), .move (.t 1), none⟩,
    ⟨(some 7), .call f_warehouseref1_CompareRows [(.t 5), (.t 6)], none⟩,
    ⟨(some 8), .bin .eql (.t 7) (.c (.int .i64 0)), none⟩,
    ⟨(some 4), .move (.t 8), none⟩])
  .ret))⟩

structure F_warehouseref1_SameRow (P : Program) where
  id : FuncId
  warehouseref1_CompareRows : F_warehouseref1_CompareRows P
  has : Has P id [] (c_warehouseref1_SameRow warehouseref1_CompareRows.id)

def c_warehousebase_Cell (f_warehousebase_Value : FuncId) : AFunc := ⟨18, [.cell true 3 4],
  (.seq
  (.region [
    ⟨(some 2), .box (.t 0), none⟩,
    ⟨(some 4), .alloc [(.int .i64 0), (.int .i64 0), (.str (bs []))], none⟩])
  (.seq
  (.seq
  (.region [
    ⟨(some 5), .fieldAddr 2 (.t 2), none⟩,
    ⟨(some 6), .load false 1 (.t 5), none⟩,
    ⟨(some 7), .move (.t 6), none⟩,
    ⟨(some 8), .move (.t 1), some (some 7, true)⟩,
    ⟨(some 9), .bin .rem (.t 8) (.c (.int .i64 4)), some (some 7, true)⟩,
    ⟨(some 10), .bin .eql (.t 9) (.c (.int .i64 0)), some (some 7, true)⟩,
    ⟨(some 11), .pick (.t 7) (.t 10) (.c (.bool false)), none⟩])
  (.cond (.t 11)
    (.seq
    (.region [
      ⟨(some 12), .build [(.int .i64 0), (.int .i64 0), (.str (bs []))] [], none⟩,
      ⟨none, .store 3 (.t 4) (.t 12), none⟩])
    .ret)
    .skip))
  (.seq
  (.region [
    ⟨(some 13), .fieldAddr 1 (.t 2), none⟩,
    ⟨(some 14), .load false 1 (.t 13), none⟩,
    ⟨(some 15), .move (.t 1), none⟩,
    ⟨(some 16), .bin .quo (.t 15) (.c (.int .i64 4)), none⟩,
    ⟨(some 17), .call f_warehousebase_Value [(.t 14), (.t 16)], none⟩,
    ⟨none, .store 3 (.t 4) (.t 17), none⟩])
  .ret)))⟩

structure F_warehousebase_Cell (P : Program) where
  id : FuncId
  warehousebase_Value : F_warehousebase_Value P
  has : Has P id [] (c_warehousebase_Cell warehousebase_Value.id)

def c_warehousebase_Row (f_warehousebase_At : FuncId) (f_warehousebase_Cell : FuncId) : AFunc := ⟨32, [.tmp 6],
  (.seq
  (.region [
    ⟨(some 6), .move (.c .nil), none⟩])
  (.seq
  (.region [
    ⟨(some 9), .move (.t 0), none⟩,
    ⟨(some 10), .len (.t 9), none⟩,
    ⟨(some 11), .mkSlice 3 32 [(.int .i64 0), (.int .i64 0), (.str (bs []))] (.t 10) (.t 10), none⟩,
    ⟨(some 7), .move (.t 11), none⟩])
  (.seq
  (.seq
  (.region [
    ⟨(some 8), .move (.c (.int .i64 0)), none⟩])
  (.block 0
    (.loop
      (.seq
      (.seq
      (.region [
        ⟨(some 12), .move (.t 8), none⟩,
        ⟨(some 13), .move (.t 0), none⟩,
        ⟨(some 14), .len (.t 13), none⟩,
        ⟨(some 15), .bin .lss (.t 12) (.t 14), none⟩])
      (.cond (.t 15)
        .skip
        (.exit 0)))
      (.seq
      (.block 1
        (.draw [
          (⟨(some 18), .move (.t 7), none⟩, []),
          (⟨(some 19), .move (.t 8), none⟩, []),
          (⟨(some 20), .move (.t 0), none⟩, []),
          (⟨(some 21), .move (.t 8), none⟩, []),
          (⟨(some 22), .indexAddr 3 (.t 20) (.t 21), none⟩, []),
          (⟨(some 23), .load true 3 (.t 22), none⟩, []),
          (⟨(some 24), .move (.t 1), none⟩, []),
          (⟨(some 25), .move (.t 2), none⟩, []),
          (⟨(some 26), .move (.t 8), none⟩, []),
          (⟨(some 27), .bin .add (.t 25) (.t 26), none⟩, []),
          (⟨(some 28), .call f_warehousebase_At [(.t 24), (.t 27)], none⟩, []),
          (⟨(some 29), .call f_warehousebase_Cell [(.t 23), (.t 28)], none⟩, []),
          (⟨(some 30), .indexAddr 3 (.t 18) (.t 19), none⟩, []),
          (⟨none, .store 3 (.t 30) (.t 29), none⟩, [])]))
      (.region [
        ⟨(some 16), .move (.t 8), none⟩,
        ⟨(some 17), .bin .add (.t 16) (.c (.int .i64 1)), none⟩,
        ⟨(some 8), .move (.t 17), none⟩]))))))
  (.seq
  (.region [
    ⟨(some 31), .move (.t 7), none⟩,
    ⟨(some 6), .move (.t 31), none⟩])
  .ret))))⟩

structure F_warehousebase_Row (P : Program) where
  id : FuncId
  warehousebase_At : F_warehousebase_At P
  warehousebase_Cell : F_warehousebase_Cell P
  has : Has P id [] (c_warehousebase_Row warehousebase_At.id warehousebase_Cell.id)

def c_schema_pick_Value : AFunc := ⟨35, [.tmp 4],
  (.seq
  (.region [
    ⟨(some 4), .move (.c .nil), none⟩])
  (.seq
  (.region [
    ⟨(some 8), .move (.t 1), none⟩,
    ⟨(some 9), .len (.t 8), none⟩,
    ⟨(some 10), .mkSlice 3 32 [(.int .i64 0), (.int .i64 0), (.str (bs []))] (.t 9) (.t 9), none⟩,
    ⟨(some 5), .move (.t 10), none⟩])
  (.seq
  (.seq
  (.region [
    ⟨(some 11), .move (.t 1), none⟩,
    ⟨(some 12), .len (.t 11), none⟩,
    ⟨(some 13), .move (.c (.int .i64 0)), none⟩])
  (.block 0
    (.loop
      (.seq
      (.region [
        ⟨(some 14), .bin .lss (.t 13) (.t 12), none⟩])
      (.seq
      (.cond (.t 14)
        .skip
        (.exit 0))
      (.seq
      (.block 1
        (.seq
        (.region [
          ⟨(some 15), .move (.t 13), none⟩,
          ⟨(some 16), .indexAddr 1 (.t 11) (.t 13), none⟩,
          ⟨(some 17), .load false 1 (.t 16), none⟩,
          ⟨(some 6), .move (.t 15), none⟩,
          ⟨(some 7), .move (.t 17), none⟩])
        (.seq
        (.region [
          ⟨(some 18), .move (.t 7), none⟩,
          ⟨(some 19), .bin .geq (.t 18) (.c (.int .i64 0)), none⟩,
          ⟨(some 20), .move (.t 19), none⟩,
          ⟨(some 21), .move (.t 7), some (some 20, true)⟩,
          ⟨(some 22), .move (.t 0), some (some 20, true)⟩,
          ⟨(some 23), .len (.t 22), some (some 20, true)⟩,
          ⟨(some 24), .bin .lss (.t 21) (.t 23), some (some 20, true)⟩,
          ⟨(some 25), .pick (.t 20) (.t 24) (.c (.bool false)), none⟩])
        (.cond (.t 25)
          (.region [
            ⟨(some 26), .move (.t 5), none⟩,
            ⟨(some 27), .move (.t 6), none⟩,
            ⟨(some 28), .move (.t 0), none⟩,
            ⟨(some 29), .move (.t 7), none⟩,
            ⟨(some 30), .indexAddr 3 (.t 28) (.t 29), none⟩,
            ⟨(some 31), .load true 3 (.t 30), none⟩,
            ⟨(some 32), .indexAddr 3 (.t 26) (.t 27), none⟩,
            ⟨none, .store 3 (.t 32) (.t 31), none⟩])
          .skip))))
      (.region [
        ⟨(some 33), .bin .add (.t 13) (.c (.int .i64 1)), none⟩,
        ⟨(some 13), .move (.t 33), none⟩])))))))
  (.seq
  (.region [
    ⟨(some 34), .move (.t 5), none⟩,
    ⟨(some 4), .move (.t 34), none⟩])
  .ret))))⟩

structure F_schema_pick_Value (P : Program) where
  id : FuncId
  has : Has P id [] c_schema_pick_Value

def c_schema_Pick (f_schema_pick_Value : FuncId) : AFunc := ⟨8, [.tmp 4],
  (.seq
  (.region [
    ⟨(some 4), .move (.c .nil), none⟩])
  (.seq
  (.region [
    ⟨(some 5), .move (.t 0), none⟩,
    ⟨(some 6), .move (.t 1), none⟩,
    ⟨(some 7), .call f_schema_pick_Value [(.t 5), (.t 6)], none⟩,
    ⟨(some 4), .move (.t 7), none⟩])
  .ret))⟩

structure F_schema_Pick (P : Program) where
  id : FuncId
  schema_pick_Value : F_schema_pick_Value P
  has : Has P id [] (c_schema_Pick schema_pick_Value.id)

def c_warehouseref5_Pick : AFunc := ⟨41, [.tmp 4],
  (.seq
  (.region [
    ⟨(some 4), .move (.c .nil), none⟩])
  (.seq
  (.region [
    ⟨(some 7), .move (.t 1), none⟩,
    ⟨(some 8), .len (.t 7), none⟩,
    ⟨(some 9), .mkSlice 3 32 [(.int .i64 0), (.int .i64 0), (.str (bs []))] (.t 8) (.t 8), none⟩,
    ⟨(some 5), .move (.t 9), none⟩])
  (.seq
  (.seq
  (.region [
    ⟨(some 6), .move (.c (.int .i64 0)), none⟩])
  (.block 0
    (.loop
      (.seq
      (.seq
      (.region [
        ⟨(some 10), .move (.t 6), none⟩,
        ⟨(some 11), .move (.t 1), none⟩,
        ⟨(some 12), .len (.t 11), none⟩,
        ⟨(some 13), .bin .lss (.t 10) (.t 12), none⟩])
      (.cond (.t 13)
        .skip
        (.exit 0)))
      (.seq
      (.block 1
        (.seq
        (.region [
          ⟨(some 16), .move (.t 1), none⟩,
          ⟨(some 17), .move (.t 6), none⟩,
          ⟨(some 18), .indexAddr 1 (.t 16) (.t 17), none⟩,
          ⟨(some 19), .load false 1 (.t 18), none⟩,
          ⟨(some 20), .bin .geq (.t 19) (.c (.int .i64 0)), none⟩,
          ⟨(some 21), .move (.t 20), none⟩,
          ⟨(some 22), .move (.t 1), some (some 21, true)⟩,
          ⟨(some 23), .move (.t 6), some (some 21, true)⟩,
          ⟨(some 24), .indexAddr 1 (.t 22) (.t 23), some (some 21, true)⟩,
          ⟨(some 25), .load false 1 (.t 24), some (some 21, true)⟩,
          ⟨(some 26), .move (.t 0), some (some 21, true)⟩,
          ⟨(some 27), .len (.t 26), some (some 21, true)⟩,
          ⟨(some 28), .bin .lss (.t 25) (.t 27), some (some 21, true)⟩,
          ⟨(some 29), .pick (.t 21) (.t 28) (.c (.bool false)), none⟩])
        (.cond (.t 29)
          (.region [
            ⟨(some 30), .move (.t 5), none⟩,
            ⟨(some 31), .move (.t 6), none⟩,
            ⟨(some 32), .move (.t 0), none⟩,
            ⟨(some 33), .move (.t 1), none⟩,
            ⟨(some 34), .move (.t 6), none⟩,
            ⟨(some 35), .indexAddr 1 (.t 33) (.t 34), none⟩,
            ⟨(some 36), .load false 1 (.t 35), none⟩,
            ⟨(some 37), .indexAddr 3 (.t 32) (.t 36), none⟩,
            ⟨(some 38), .load true 3 (.t 37), none⟩,
            ⟨(some 39), .indexAddr 3 (.t 30) (.t 31), none⟩,
            ⟨none, .store 3 (.t 39) (.t 38), none⟩])
          .skip)))
      (.region [
        ⟨(some 14), .move (.t 6), none⟩,
        ⟨(some 15), .bin .add (.t 14) (.c (.int .i64 1)), none⟩,
        ⟨(some 6), .move (.t 15), none⟩]))))))
  (.seq
  (.region [
    ⟨(some 40), .move (.t 5), none⟩,
    ⟨(some 4), .move (.t 40), none⟩])
  .ret))))⟩

structure F_warehouseref5_Pick (P : Program) where
  id : FuncId
  has : Has P id [] c_warehouseref5_Pick

end Go.AW

namespace Go.AW
def c_bag_formed (f_value_Valid : FuncId) : AFunc := ⟨30, [.tmp 2],
  (.seq
  (.region [
    ⟨(some 1), .box (.t 0), none⟩,
    ⟨(some 2), .move (.c (.int .i64 0)), none⟩])
  (.seq
  (.seq
  (.region [
    ⟨(some 5), .fieldAddr 0 (.t 1), none⟩,
    ⟨(some 6), .load false 1 (.t 5), none⟩,
    ⟨(some 7), .len (.t 6), none⟩,
    ⟨(some 8), .bin .gtr (.t 7) (.c (.int .i64 12)), none⟩,
    ⟨(some 9), .move (.t 8), none⟩,
    ⟨(some 10), .fieldAddr 1 (.t 1), some (some 9, false)⟩,
    ⟨(some 11), .load false 1 (.t 10), some (some 9, false)⟩,
    ⟨(some 12), .bin .lss (.t 11) (.c (.int .i64 (-65536))), some (some 9, false)⟩,
    ⟨(some 13), .pick (.t 9) (.c (.bool true)) (.t 12), none⟩,
    ⟨(some 14), .move (.t 13), none⟩,
    ⟨(some 15), .fieldAddr 1 (.t 1), some (some 14, false)⟩,
    ⟨(some 16), .load false 1 (.t 15), some (some 14, false)⟩,
    ⟨(some 17), .bin .gtr (.t 16) (.c (.int .i64 65536)), some (some 14, false)⟩,
    ⟨(some 18), .pick (.t 14) (.c (.bool true)) (.t 17), none⟩])
  (.cond (.t 18)
    (.seq
    (.region [
      ⟨(some 2), .move (.c (.int .i64 2)), none⟩])
    .ret)
    .skip))
  (.seq
  (.seq
  (.region [
    ⟨(some 19), .fieldAddr 0 (.t 1), none⟩,
    ⟨(some 20), .load false 1 (.t 19), none⟩,
    ⟨(some 21), .len (.t 20), none⟩,
    ⟨(some 22), .move (.c (.int .i64 0)), none⟩])
  (.block 0
    (.loop
      (.seq
      (.region [
        ⟨(some 23), .bin .lss (.t 22) (.t 21), none⟩])
      (.seq
      (.cond (.t 23)
        .skip
        (.exit 0))
      (.seq
      (.block 1
        (.seq
        (.region [
          ⟨(some 24), .indexAddr 3 (.t 20) (.t 22), none⟩,
          ⟨(some 25), .load true 3 (.t 24), none⟩,
          ⟨(some 4), .alloc [(.int .i64 0), (.int .i64 0), (.str (bs []))], none⟩,
          ⟨none, .store 3 (.t 4) (.t 25), none⟩])
        (.seq
        (.region [
          ⟨(some 26), .load true 3 (.t 4), none⟩,
          ⟨(some 27), .call f_value_Valid [(.t 26)], none⟩,
          ⟨(some 28), .un .not (.t 27), none⟩])
        (.cond (.t 28)
          (.seq
          (.region [
            ⟨(some 2), .move (.c (.int .i64 8)), none⟩])
          .ret)
          .skip))))
      (.region [
        ⟨(some 29), .bin .add (.t 22) (.c (.int .i64 1)), none⟩,
        ⟨(some 22), .move (.t 29), none⟩])))))))
  (.seq
  (.region [
    ⟨(some 2), .move (.c (.int .i64 0)), none⟩])
  .ret))))⟩

structure F_bag_formed (P : Program) where
  id : FuncId
  value_Valid : F_value_Valid P
  has : Has P id [] (c_bag_formed value_Valid.id)

def c_bag_Validate (f_bag_formed : FuncId) (f_value_CompareRows : FuncId) : AFunc := ⟨39, [.tmp 2],
  (.seq
  (.region [
    ⟨(some 2), .move (.c (.int .i64 0)), none⟩])
  (.seq
  (.seq
  (.region [
    ⟨(some 6), .move (.t 0), none⟩,
    ⟨(some 7), .len (.t 6), none⟩,
    ⟨(some 8), .bin .gtr (.t 7) (.c (.int .i64 4096)), none⟩])
  (.cond (.t 8)
    (.seq
    (.region [
      ⟨(some 2), .move (.c (.int .i64 2)), none⟩])
    .ret)
    .skip))
  (.seq
  (.seq
  (.region [
    ⟨(some 9), .move (.t 0), none⟩,
    ⟨(some 10), .len (.t 9), none⟩,
    ⟨(some 11), .move (.c (.int .i64 0)), none⟩])
  (.block 0
    (.loop
      (.seq
      (.region [
        ⟨(some 12), .bin .lss (.t 11) (.t 10), none⟩])
      (.seq
      (.cond (.t 12)
        .skip
        (.exit 0))
      (.seq
      (.block 1
        (.seq
        (.region [
          ⟨(some 13), .move (.t 11), none⟩,
          ⟨(some 14), .indexAddr 2 (.t 9) (.t 11), none⟩,
          ⟨(some 15), .load true 2 (.t 14), none⟩,
          ⟨(some 4), .alloc [.nil, (.int .i64 0)], none⟩,
          ⟨(some 3), .move (.t 13), none⟩,
          ⟨none, .store 2 (.t 4) (.t 15), none⟩])
        (.seq
        (.seq
        (.region [
          ⟨(some 16), .load true 2 (.t 4), none⟩,
          ⟨(some 17), .call f_bag_formed [(.t 16)], none⟩,
          ⟨(some 5), .move (.t 17), none⟩])
        (.seq
        (.region [
          ⟨(some 18), .move (.t 5), none⟩,
          ⟨(some 19), .bin .neq (.t 18) (.c (.int .i64 0)), none⟩])
        (.cond (.t 19)
          (.seq
          (.region [
            ⟨(some 20), .move (.t 5), none⟩,
            ⟨(some 2), .move (.t 20), none⟩])
          .ret)
          .skip)))
        (.seq
        (.seq
        (.region [
          ⟨(some 21), .fieldAddr 1 (.t 4), none⟩,
          ⟨(some 22), .load false 1 (.t 21), none⟩,
          ⟨(some 23), .bin .eql (.t 22) (.c (.int .i64 0)), none⟩])
        (.cond (.t 23)
          (.seq
          (.region [
            ⟨(some 2), .move (.c (.int .i64 8)), none⟩])
          .ret)
          .skip))
        (.seq
        (.draw [
          (⟨(some 24), .move (.t 3), none⟩, []),
          (⟨(some 25), .bin .gtr (.t 24) (.c (.int .i64 0)), none⟩, []),
          (⟨(some 26), .move (.t 25), none⟩, []),
          (⟨(some 27), .move (.t 0), some (some 26, true)⟩, []),
          (⟨(some 28), .move (.t 3), some (some 26, true)⟩, []),
          (⟨(some 29), .bin .sub (.t 28) (.c (.int .i64 1)), some (some 26, true)⟩, []),
          (⟨(some 30), .indexAddr 2 (.t 27) (.t 29), some (some 26, true)⟩, []),
          (⟨(some 31), .fieldAddr 0 (.t 30), some (some 26, true)⟩, []),
          (⟨(some 32), .load false 1 (.t 31), some (some 26, true)⟩, []),
          (⟨(some 33), .fieldAddr 0 (.t 4), some (some 26, true)⟩, []),
          (⟨(some 34), .load false 1 (.t 33), some (some 26, true)⟩, []),
          (⟨(some 35), .call f_value_CompareRows [(.t 32), (.t 34)], some (some 26, true)⟩, []),
          (⟨(some 36), .bin .geq (.t 35) (.c (.int .i64 0)), some (some 26, true)⟩, []),
          (⟨(some 37), .pick (.t 26) (.t 36) (.c (.bool false)), none⟩, [])])
        (.cond (.t 37)
          (.seq
          (.region [
            ⟨(some 2), .move (.c (.int .i64 14)), none⟩])
          .ret)
          .skip))))))
      (.region [
        ⟨(some 38), .bin .add (.t 11) (.c (.int .i64 1)), none⟩,
        ⟨(some 11), .move (.t 38), none⟩])))))))
  (.seq
  (.region [
    ⟨(some 2), .move (.c (.int .i64 0)), none⟩])
  .ret))))⟩

structure F_bag_Validate (P : Program) where
  id : FuncId
  bag_formed : F_bag_formed P
  value_CompareRows : F_value_CompareRows P
  has : Has P id [] (c_bag_Validate bag_formed.id value_CompareRows.id)

def c_slices_Clone_LValue_Value : AFunc := ⟨8, [.tmp 2],
  (.seq
  (.region [
    ⟨(some 2), .move (.c .nil), none⟩])
  (.seq
  (.seq
  (.region [
    ⟨(some 3), .move (.t 0), none⟩,
    ⟨(some 4), .isNil false (.t 3), none⟩])
  (.cond (.t 4)
    (.seq
    (.region [
      ⟨(some 2), .move (.c .nil), none⟩])
    .ret)
    .skip))
  (.seq
  (.region [
    ⟨(some 5), .buildSlice 3 0 [(.int .i64 0), (.int .i64 0), (.str (bs []))] [], none⟩,
    ⟨(some 6), .move (.t 0), none⟩,
    ⟨(some 7), .append 3 32 [(.int .i64 0), (.int .i64 0), (.str (bs []))] (.t 5) (.t 6), none⟩,
    ⟨(some 2), .move (.t 7), none⟩])
  .ret)))⟩

structure F_slices_Clone_LValue_Value (P : Program) where
  id : FuncId
  has : Has P id [] c_slices_Clone_LValue_Value

def c_bag_put (f_slices_Clone_LValue_Value : FuncId) : AFunc := ⟨24, [.tmp 6, .tmp 7],
  (.seq
  (.region [
    ⟨(some 6), .move (.c .nil), none⟩,
    ⟨(some 7), .move (.c (.bool false)), none⟩])
  (.seq
  (.seq
  (.region [
    ⟨(some 8), .move (.t 2), none⟩,
    ⟨(some 9), .bin .lss (.t 8) (.c (.int .i64 (-65536))), none⟩,
    ⟨(some 10), .move (.t 9), none⟩,
    ⟨(some 11), .move (.t 2), some (some 10, false)⟩,
    ⟨(some 12), .bin .gtr (.t 11) (.c (.int .i64 65536)), some (some 10, false)⟩,
    ⟨(some 13), .pick (.t 10) (.c (.bool true)) (.t 12), none⟩])
  (.cond (.t 13)
    (.seq
    (.region [
      ⟨(some 6), .move (.c .nil), none⟩,
      ⟨(some 7), .move (.c (.bool false)), none⟩])
    .ret)
    .skip))
  (.seq
  (.seq
  (.region [
    ⟨(some 14), .move (.t 2), none⟩,
    ⟨(some 15), .bin .neq (.t 14) (.c (.int .i64 0)), none⟩])
  (.cond (.t 15)
    (.region [
      ⟨(some 16), .move (.t 0), none⟩,
      ⟨(some 17), .move (.t 1), none⟩,
      ⟨(some 18), .call f_slices_Clone_LValue_Value [(.t 17)], none⟩,
      ⟨(some 19), .move (.t 2), none⟩,
      ⟨(some 20), .build [.nil, (.int .i64 0)] [(0, 1, (.t 18)), (1, 1, (.t 19))], none⟩,
      ⟨(some 21), .buildSlice 2 1 [.nil, (.int .i64 0)] [(0, (.t 20))], none⟩,
      ⟨(some 22), .append 2 32 [.nil, (.int .i64 0)] (.t 16) (.t 21), none⟩,
      ⟨(some 0), .move (.t 22), none⟩])
    .skip))
  (.seq
  (.region [
    ⟨(some 23), .move (.t 0), none⟩,
    ⟨(some 6), .move (.t 23), none⟩,
    ⟨(some 7), .move (.c (.bool true)), none⟩])
  .ret))))⟩

structure F_bag_put (P : Program) where
  id : FuncId
  slices_Clone_LValue_Value : F_slices_Clone_LValue_Value P
  has : Has P id [] (c_bag_put slices_Clone_LValue_Value.id)

def c_bag_done : AFunc := ⟨8, [.tmp 2, .tmp 3],
  (.seq
  (.region [
    ⟨(some 2), .move (.c .nil), none⟩,
    ⟨(some 3), .move (.c (.int .i64 0)), none⟩])
  (.seq
  (.seq
  (.region [
    ⟨(some 4), .move (.t 0), none⟩,
    ⟨(some 5), .len (.t 4), none⟩,
    ⟨(some 6), .bin .gtr (.t 5) (.c (.int .i64 4096)), none⟩])
  (.cond (.t 6)
    (.seq
    (.region [
      ⟨(some 2), .move (.c .nil), none⟩,
      ⟨(some 3), .move (.c (.int .i64 2)), none⟩])
    .ret)
    .skip))
  (.seq
  (.region [
    ⟨(some 7), .move (.t 0), none⟩,
    ⟨(some 2), .move (.t 7), none⟩,
    ⟨(some 3), .move (.c (.int .i64 0)), none⟩])
  .ret)))⟩

structure F_bag_done (P : Program) where
  id : FuncId
  has : Has P id [] c_bag_done

def c_slices_Clone_LEntry_Entry : AFunc := ⟨8, [.tmp 2],
  (.seq
  (.region [
    ⟨(some 2), .move (.c .nil), none⟩])
  (.seq
  (.seq
  (.region [
    ⟨(some 3), .move (.t 0), none⟩,
    ⟨(some 4), .isNil false (.t 3), none⟩])
  (.cond (.t 4)
    (.seq
    (.region [
      ⟨(some 2), .move (.c .nil), none⟩])
    .ret)
    .skip))
  (.seq
  (.region [
    ⟨(some 5), .buildSlice 2 0 [.nil, (.int .i64 0)] [], none⟩,
    ⟨(some 6), .move (.t 0), none⟩,
    ⟨(some 7), .append 2 32 [.nil, (.int .i64 0)] (.t 5) (.t 6), none⟩,
    ⟨(some 2), .move (.t 7), none⟩])
  .ret)))⟩

structure F_slices_Clone_LEntry_Entry (P : Program) where
  id : FuncId
  has : Has P id [] c_slices_Clone_LEntry_Entry

def c_slices_IndexFunc_LEntry_Entry : AFunc := ⟨19, [.tmp 4],
  (.seq
  (.region [
    ⟨(some 4), .move (.c (.int .i64 0)), none⟩])
  (.seq
  (.seq
  (.region [
    ⟨(some 6), .move (.t 0), none⟩,
    ⟨(some 7), .len (.t 6), none⟩,
    ⟨(some 8), .move (.c (.int .i64 0)), none⟩])
  (.block 0
    (.loop
      (.seq
      (.region [
        ⟨(some 9), .bin .lss (.t 8) (.t 7), none⟩])
      (.seq
      (.cond (.t 9)
        .skip
        (.exit 0))
      (.seq
      (.block 1
        (.seq
        (.region [
          ⟨(some 10), .move (.t 8), none⟩,
          ⟨(some 5), .move (.t 10), none⟩])
        (.seq
        (.region [
          ⟨(some 11), .move (.t 1), none⟩,
          ⟨(some 12), .move (.t 0), none⟩,
          ⟨(some 13), .move (.t 5), none⟩,
          ⟨(some 14), .indexAddr 2 (.t 12) (.t 13), none⟩,
          ⟨(some 15), .load true 2 (.t 14), none⟩,
          ⟨(some 16), .callv (.t 11) [(.t 15)], none⟩])
        (.cond (.t 16)
          (.seq
          (.region [
            ⟨(some 17), .move (.t 5), none⟩,
            ⟨(some 4), .move (.t 17), none⟩])
          .ret)
          .skip))))
      (.region [
        ⟨(some 18), .bin .add (.t 8) (.c (.int .i64 1)), none⟩,
        ⟨(some 8), .move (.t 18), none⟩])))))))
  (.seq
  (.region [
    ⟨(some 4), .move (.c (.int .i64 (-1))), none⟩])
  .ret)))⟩

structure F_slices_IndexFunc_LEntry_Entry (P : Program) where
  id : FuncId
  has : Has P id [] c_slices_IndexFunc_LEntry_Entry

def c_slices_ContainsFunc_LEntry_Entry (f_slices_IndexFunc_LEntry_Entry : FuncId) : AFunc := ⟨9, [.tmp 4],
  (.seq
  (.region [
    ⟨(some 4), .move (.c (.bool false)), none⟩])
  (.seq
  (.region [
    ⟨(some 5), .move (.t 0), none⟩,
    ⟨(some 6), .move (.t 1), none⟩,
    ⟨(some 7), .call f_slices_IndexFunc_LEntry_Entry [(.t 5), (.t 6)], none⟩,
    ⟨(some 8), .bin .geq (.t 7) (.c (.int .i64 0)), none⟩,
    ⟨(some 4), .move (.t 8), none⟩])
  .ret))⟩

structure F_slices_ContainsFunc_LEntry_Entry (P : Program) where
  id : FuncId
  slices_IndexFunc_LEntry_Entry : F_slices_IndexFunc_LEntry_Entry P
  has : Has P id [] (c_slices_ContainsFunc_LEntry_Entry slices_IndexFunc_LEntry_Entry.id)

def c_warehouseref6_small : AFunc := ⟨9, [.tmp 2],
  (.seq
  (.region [
    ⟨(some 2), .move (.c (.bool false)), none⟩])
  (.seq
  (.region [
    ⟨(some 3), .move (.t 0), none⟩,
    ⟨(some 4), .bin .geq (.t 3) (.c (.int .i64 (-65536))), none⟩,
    ⟨(some 5), .move (.t 4), none⟩,
    ⟨(some 6), .move (.t 0), some (some 5, true)⟩,
    ⟨(some 7), .bin .leq (.t 6) (.c (.int .i64 65536)), some (some 5, true)⟩,
    ⟨(some 8), .pick (.t 5) (.t 7) (.c (.bool false)), none⟩,
    ⟨(some 2), .move (.t 8), none⟩])
  .ret))⟩

structure F_warehouseref6_small (P : Program) where
  id : FuncId
  has : Has P id [] c_warehouseref6_small

def c_warehouseref6_fits (f_warehouseref6_small : FuncId) (f_warehouseref1_Valid : FuncId) : AFunc := ⟨28, [.tmp 2],
  (.seq
  (.region [
    ⟨(some 1), .box (.t 0), none⟩,
    ⟨(some 2), .move (.c (.int .i64 0)), none⟩])
  (.seq
  (.seq
  (.region [
    ⟨(some 4), .fieldAddr 0 (.t 1), none⟩,
    ⟨(some 5), .load false 1 (.t 4), none⟩,
    ⟨(some 6), .len (.t 5), none⟩,
    ⟨(some 7), .bin .gtr (.t 6) (.c (.int .i64 12)), none⟩,
    ⟨(some 8), .move (.t 7), none⟩,
    ⟨(some 9), .fieldAddr 1 (.t 1), some (some 8, false)⟩,
    ⟨(some 10), .load false 1 (.t 9), some (some 8, false)⟩,
    ⟨(some 11), .call f_warehouseref6_small [(.t 10)], some (some 8, false)⟩,
    ⟨(some 12), .un .not (.t 11), some (some 8, false)⟩,
    ⟨(some 13), .pick (.t 8) (.c (.bool true)) (.t 12), none⟩])
  (.cond (.t 13)
    (.seq
    (.region [
      ⟨(some 2), .move (.c (.int .i64 2)), none⟩])
    .ret)
    .skip))
  (.seq
  (.seq
  (.region [
    ⟨(some 3), .move (.c (.int .i64 0)), none⟩])
  (.block 0
    (.loop
      (.seq
      (.seq
      (.region [
        ⟨(some 14), .move (.t 3), none⟩,
        ⟨(some 15), .fieldAddr 0 (.t 1), none⟩,
        ⟨(some 16), .load false 1 (.t 15), none⟩,
        ⟨(some 17), .len (.t 16), none⟩,
        ⟨(some 18), .bin .lss (.t 14) (.t 17), none⟩])
      (.cond (.t 18)
        .skip
        (.exit 0)))
      (.seq
      (.block 1
        (.seq
        (.region [
          ⟨(some 21), .fieldAddr 0 (.t 1), none⟩,
          ⟨(some 22), .load false 1 (.t 21), none⟩,
          ⟨(some 23), .move (.t 3), none⟩,
          ⟨(some 24), .indexAddr 3 (.t 22) (.t 23), none⟩,
          ⟨(some 25), .load true 3 (.t 24), none⟩,
          ⟨(some 26), .call f_warehouseref1_Valid [(.t 25)], none⟩,
          ⟨(some 27), .un .not (.t 26), none⟩])
        (.cond (.t 27)
          (.seq
          (.region [
            ⟨(some 2), .move (.c (.int .i64 8)), none⟩])
          .ret)
          .skip)))
      (.region [
        ⟨(some 19), .move (.t 3), none⟩,
        ⟨(some 20), .bin .add (.t 19) (.c (.int .i64 1)), none⟩,
        ⟨(some 3), .move (.t 20), none⟩]))))))
  (.seq
  (.region [
    ⟨(some 2), .move (.c (.int .i64 0)), none⟩])
  .ret))))⟩

structure F_warehouseref6_fits (P : Program) where
  id : FuncId
  warehouseref6_small : F_warehouseref6_small P
  warehouseref1_Valid : F_warehouseref1_Valid P
  has : Has P id [] (c_warehouseref6_fits warehouseref6_small.id warehouseref1_Valid.id)

def c_warehouseref6_Validate (f_warehouseref6_fits : FuncId) (f_warehouseref1_CompareRows : FuncId) : AFunc := ⟨45, [.tmp 2],
  (.seq
  (.region [
    ⟨(some 2), .move (.c (.int .i64 0)), none⟩])
  (.seq
  (.seq
  (.region [
    ⟨(some 5), .move (.t 0), none⟩,
    ⟨(some 6), .len (.t 5), none⟩,
    ⟨(some 7), .bin .gtr (.t 6) (.c (.int .i64 4096)), none⟩])
  (.cond (.t 7)
    (.seq
    (.region [
      ⟨(some 2), .move (.c (.int .i64 2)), none⟩])
    .ret)
    .skip))
  (.seq
  (.seq
  (.region [
    ⟨(some 3), .move (.c (.int .i64 0)), none⟩])
  (.block 0
    (.loop
      (.seq
      (.seq
      (.region [
        ⟨(some 8), .move (.t 3), none⟩,
        ⟨(some 9), .move (.t 0), none⟩,
        ⟨(some 10), .len (.t 9), none⟩,
        ⟨(some 11), .bin .lss (.t 8) (.t 10), none⟩])
      (.cond (.t 11)
        .skip
        (.exit 0)))
      (.seq
      (.block 1
        (.seq
        (.seq
        (.region [
          ⟨(some 14), .move (.t 0), none⟩,
          ⟨(some 15), .move (.t 3), none⟩,
          ⟨(some 16), .indexAddr 2 (.t 14) (.t 15), none⟩,
          ⟨(some 17), .load true 2 (.t 16), none⟩,
          ⟨(some 18), .call f_warehouseref6_fits [(.t 17)], none⟩,
          ⟨(some 4), .move (.t 18), none⟩])
        (.seq
        (.region [
          ⟨(some 19), .move (.t 4), none⟩,
          ⟨(some 20), .bin .neq (.t 19) (.c (.int .i64 0)), none⟩])
        (.cond (.t 20)
          (.seq
          (.region [
            ⟨(some 21), .move (.t 4), none⟩,
            ⟨(some 2), .move (.t 21), none⟩])
          .ret)
          .skip)))
        (.seq
        (.seq
        (.region [
          ⟨(some 22), .move (.t 0), none⟩,
          ⟨(some 23), .move (.t 3), none⟩,
          ⟨(some 24), .indexAddr 2 (.t 22) (.t 23), none⟩,
          ⟨(some 25), .fieldAddr 1 (.t 24), none⟩,
          ⟨(some 26), .load false 1 (.t 25), none⟩,
          ⟨(some 27), .bin .eql (.t 26) (.c (.int .i64 0)), none⟩])
        (.cond (.t 27)
          (.seq
          (.region [
            ⟨(some 2), .move (.c (.int .i64 8)), none⟩])
          .ret)
          .skip))
        (.seq
        (.draw [
          (⟨(some 28), .move (.t 3), none⟩, []),
          (⟨(some 29), .bin .gtr (.t 28) (.c (.int .i64 0)), none⟩, []),
          (⟨(some 30), .move (.t 29), none⟩, []),
          (⟨(some 31), .move (.t 0), some (some 30, true)⟩, []),
          (⟨(some 32), .move (.t 3), some (some 30, true)⟩, []),
          (⟨(some 33), .bin .sub (.t 32) (.c (.int .i64 1)), some (some 30, true)⟩, []),
          (⟨(some 34), .indexAddr 2 (.t 31) (.t 33), some (some 30, true)⟩, []),
          (⟨(some 35), .fieldAddr 0 (.t 34), some (some 30, true)⟩, []),
          (⟨(some 36), .load false 1 (.t 35), some (some 30, true)⟩, []),
          (⟨(some 37), .move (.t 0), some (some 30, true)⟩, []),
          (⟨(some 38), .move (.t 3), some (some 30, true)⟩, []),
          (⟨(some 39), .indexAddr 2 (.t 37) (.t 38), some (some 30, true)⟩, []),
          (⟨(some 40), .fieldAddr 0 (.t 39), some (some 30, true)⟩, []),
          (⟨(some 41), .load false 1 (.t 40), some (some 30, true)⟩, []),
          (⟨(some 42), .call f_warehouseref1_CompareRows [(.t 36), (.t 41)], some (some 30, true)⟩, []),
          (⟨(some 43), .bin .geq (.t 42) (.c (.int .i64 0)), some (some 30, true)⟩, []),
          (⟨(some 44), .pick (.t 30) (.t 43) (.c (.bool false)), none⟩, [])])
        (.cond (.t 44)
          (.seq
          (.region [
            ⟨(some 2), .move (.c (.int .i64 14)), none⟩])
          .ret)
          .skip)))))
      (.region [
        ⟨(some 12), .move (.t 3), none⟩,
        ⟨(some 13), .bin .add (.t 12) (.c (.int .i64 1)), none⟩,
        ⟨(some 3), .move (.t 13), none⟩]))))))
  (.seq
  (.region [
    ⟨(some 2), .move (.c (.int .i64 0)), none⟩])
  .ret))))⟩

structure F_warehouseref6_Validate (P : Program) where
  id : FuncId
  warehouseref6_fits : F_warehouseref6_fits P
  warehouseref1_CompareRows : F_warehouseref1_CompareRows P
  has : Has P id [] (c_warehouseref6_Validate warehouseref6_fits.id warehouseref1_CompareRows.id)

def c_warehouseref6_merge (f_warehouseref1_CompareRows : FuncId) : AFunc := ⟨74, [.tmp 4],
  (.seq
  (.region [
    ⟨(some 4), .move (.c .nil), none⟩])
  (.seq
  (.region [
    ⟨(some 5), .move (.c .nil), none⟩])
  (.seq
  (.block 0
    (.loop
      (.seq
      (.seq
      (.region [
        ⟨(some 7), .move (.t 0), none⟩,
        ⟨(some 8), .len (.t 7), none⟩,
        ⟨(some 9), .bin .gtr (.t 8) (.c (.int .i64 0)), none⟩,
        ⟨(some 10), .move (.t 9), none⟩,
        ⟨(some 11), .move (.t 1), some (some 10, false)⟩,
        ⟨(some 12), .len (.t 11), some (some 10, false)⟩,
        ⟨(some 13), .bin .gtr (.t 12) (.c (.int .i64 0)), some (some 10, false)⟩,
        ⟨(some 14), .pick (.t 10) (.c (.bool true)) (.t 13), none⟩])
      (.cond (.t 14)
        .skip
        (.exit 0)))
      (.block 1
        (.seq
        (.region [
          ⟨(some 6), .move (.c (.int .i64 (-1))), none⟩])
        (.seq
        (.seq
        (.region [
          ⟨(some 15), .move (.t 0), none⟩,
          ⟨(some 16), .len (.t 15), none⟩,
          ⟨(some 17), .bin .eql (.t 16) (.c (.int .i64 0)), none⟩])
        (.cond (.t 17)
          (.region [
            ⟨(some 6), .move (.c (.int .i64 1)), none⟩])
          (.seq
          (.region [
            ⟨(some 18), .move (.t 1), none⟩,
            ⟨(some 19), .len (.t 18), none⟩,
            ⟨(some 20), .bin .gtr (.t 19) (.c (.int .i64 0)), none⟩])
          (.cond (.t 20)
            (.draw [
              (⟨(some 21), .move (.t 0), none⟩, []),
              (⟨(some 22), .indexAddr 2 (.t 21) (.c (.int .i64 0)), none⟩, []),
              (⟨(some 23), .fieldAddr 0 (.t 22), none⟩, []),
              (⟨(some 24), .load false 1 (.t 23), none⟩, []),
              (⟨(some 25), .move (.t 1), none⟩, []),
              (⟨(some 26), .indexAddr 2 (.t 25) (.c (.int .i64 0)), none⟩, []),
              (⟨(some 27), .fieldAddr 0 (.t 26), none⟩, []),
              (⟨(some 28), .load false 1 (.t 27), none⟩, []),
              (⟨(some 29), .call f_warehouseref1_CompareRows [(.t 24), (.t 28)], none⟩, []),
              (⟨(some 6), .move (.t 29), none⟩, [])])
            .skip))))
        (.block 2
          (.seq
          (.region [
            ⟨(some 52), .move (.t 6), none⟩,
            ⟨(some 53), .bin .lss (.t 52) (.c (.int .i64 0)), none⟩,
            ⟨(some 51), .move (.t 53), none⟩])
          (.cond (.t 51)
            (.draw [
              (⟨(some 54), .move (.t 5), none⟩, []),
              (⟨(some 55), .move (.t 0), none⟩, []),
              (⟨(some 56), .indexAddr 2 (.t 55) (.c (.int .i64 0)), none⟩, []),
              (⟨(some 57), .load true 2 (.t 56), none⟩, []),
              (⟨(some 58), .buildSlice 2 1 [.nil, (.int .i64 0)] [(0, (.t 57))], none⟩, []),
              (⟨(some 59), .append 2 32 [.nil, (.int .i64 0)] (.t 54) (.t 58), none⟩, []),
              (⟨(some 60), .move (.t 0), none⟩, []),
              (⟨(some 61), .slice 2 (.t 60) (some (.c (.int .i64 1))) none, none⟩, [10]),
              (⟨(some 5), .move (.t 59), none⟩, []),
              (⟨(some 0), .move (.t 61), none⟩, [])])
            (.seq
            (.region [
              ⟨(some 63), .move (.t 6), none⟩,
              ⟨(some 64), .bin .gtr (.t 63) (.c (.int .i64 0)), none⟩,
              ⟨(some 62), .move (.t 64), none⟩])
            (.cond (.t 62)
              (.draw [
                (⟨(some 65), .move (.t 5), none⟩, []),
                (⟨(some 66), .move (.t 1), none⟩, []),
                (⟨(some 67), .indexAddr 2 (.t 66) (.c (.int .i64 0)), none⟩, []),
                (⟨(some 68), .load true 2 (.t 67), none⟩, []),
                (⟨(some 69), .buildSlice 2 1 [.nil, (.int .i64 0)] [(0, (.t 68))], none⟩, []),
                (⟨(some 70), .append 2 32 [.nil, (.int .i64 0)] (.t 65) (.t 69), none⟩, []),
                (⟨(some 71), .move (.t 1), none⟩, []),
                (⟨(some 72), .slice 2 (.t 71) (some (.c (.int .i64 1))) none, none⟩, [10]),
                (⟨(some 5), .move (.t 70), none⟩, []),
                (⟨(some 1), .move (.t 72), none⟩, [])])
              (.seq
              (.draw [
                (⟨(some 30), .move (.t 5), none⟩, []),
                (⟨(some 31), .move (.t 0), none⟩, []),
                (⟨(some 32), .indexAddr 2 (.t 31) (.c (.int .i64 0)), none⟩, []),
                (⟨(some 33), .fieldAddr 0 (.t 32), none⟩, []),
                (⟨(some 34), .load false 1 (.t 33), none⟩, []),
                (⟨(some 35), .move (.t 0), none⟩, []),
                (⟨(some 36), .indexAddr 2 (.t 35) (.c (.int .i64 0)), none⟩, []),
                (⟨(some 37), .fieldAddr 1 (.t 36), none⟩, []),
                (⟨(some 38), .load false 1 (.t 37), none⟩, []),
                (⟨(some 39), .move (.t 1), none⟩, []),
                (⟨(some 40), .indexAddr 2 (.t 39) (.c (.int .i64 0)), none⟩, []),
                (⟨(some 41), .fieldAddr 1 (.t 40), none⟩, []),
                (⟨(some 42), .load false 1 (.t 41), none⟩, []),
                (⟨(some 43), .bin .add (.t 38) (.t 42), none⟩, []),
                (⟨(some 44), .build [.nil, (.int .i64 0)] [(0, 1, (.t 34)), (1, 1, (.t 43))], none⟩, []),
                (⟨(some 45), .buildSlice 2 1 [.nil, (.int .i64 0)] [(0, (.t 44))], none⟩, []),
                (⟨(some 46), .append 2 32 [.nil, (.int .i64 0)] (.t 30) (.t 45), none⟩, []),
                (⟨(some 5), .move (.t 46), none⟩, [])])
              (.draw [
                (⟨(some 47), .move (.t 0), none⟩, []),
                (⟨(some 48), .slice 2 (.t 47) (some (.c (.int .i64 1))) none, none⟩, []),
                (⟨(some 49), .move (.t 1), none⟩, []),
                (⟨(some 50), .slice 2 (.t 49) (some (.c (.int .i64 1))) none, none⟩, []),
                (⟨(some 0), .move (.t 48), none⟩, []),
                (⟨(some 1), .move (.t 50), none⟩, [])])))))))))))))
  (.seq
  (.region [
    ⟨(some 73), .move (.t 5), none⟩,
    ⟨(some 4), .move (.t 73), none⟩])
  .ret))))⟩

structure F_warehouseref6_merge (P : Program) where
  id : FuncId
  warehouseref1_CompareRows : F_warehouseref1_CompareRows P
  has : Has P id [] (c_warehouseref6_merge warehouseref1_CompareRows.id)

def c_warehouseref6_result (f_warehouseref6_small : FuncId) : AFunc := ⟨46, [.tmp 2, .tmp 3],
  (.seq
  (.region [
    ⟨(some 2), .move (.c .nil), none⟩,
    ⟨(some 3), .move (.c (.int .i64 0)), none⟩])
  (.seq
  (.region [
    ⟨(some 4), .move (.c .nil), none⟩])
  (.seq
  (.seq
  (.region [
    ⟨(some 5), .move (.c (.int .i64 0)), none⟩])
  (.block 0
    (.loop
      (.seq
      (.seq
      (.region [
        ⟨(some 6), .move (.t 5), none⟩,
        ⟨(some 7), .move (.t 0), none⟩,
        ⟨(some 8), .len (.t 7), none⟩,
        ⟨(some 9), .bin .lss (.t 6) (.t 8), none⟩])
      (.cond (.t 9)
        .skip
        (.exit 0)))
      (.seq
      (.block 1
        (.seq
        (.seq
        (.region [
          ⟨(some 12), .move (.t 0), none⟩,
          ⟨(some 13), .move (.t 5), none⟩,
          ⟨(some 14), .indexAddr 2 (.t 12) (.t 13), none⟩,
          ⟨(some 15), .fieldAddr 1 (.t 14), none⟩,
          ⟨(some 16), .load false 1 (.t 15), none⟩,
          ⟨(some 17), .bin .eql (.t 16) (.c (.int .i64 0)), none⟩])
        (.cond (.t 17)
          (.exit 1)
          .skip))
        (.seq
        (.seq
        (.region [
          ⟨(some 18), .move (.t 0), none⟩,
          ⟨(some 19), .move (.t 5), none⟩,
          ⟨(some 20), .indexAddr 2 (.t 18) (.t 19), none⟩,
          ⟨(some 21), .fieldAddr 1 (.t 20), none⟩,
          ⟨(some 22), .load false 1 (.t 21), none⟩,
          ⟨(some 23), .call f_warehouseref6_small [(.t 22)], none⟩,
          ⟨(some 24), .un .not (.t 23), none⟩,
          ⟨(some 25), .move (.t 24), none⟩,
          ⟨(some 26), .move (.t 4), some (some 25, false)⟩,
          ⟨(some 27), .len (.t 26), some (some 25, false)⟩,
          ⟨(some 28), .bin .eql (.t 27) (.c (.int .i64 4096)), some (some 25, false)⟩,
          ⟨(some 29), .pick (.t 25) (.c (.bool true)) (.t 28), none⟩])
        (.cond (.t 29)
          (.seq
          (.region [
            ⟨(some 2), .move (.c .nil), none⟩,
            ⟨(some 3), .move (.c (.int .i64 2)), none⟩])
          .ret)
          .skip))
        (.draw [
          (⟨(some 30), .move (.t 4), none⟩, []),
          (⟨(some 31), .move (.t 0), none⟩, []),
          (⟨(some 32), .move (.t 5), none⟩, []),
          (⟨(some 33), .indexAddr 2 (.t 31) (.t 32), none⟩, []),
          (⟨(some 34), .fieldAddr 0 (.t 33), none⟩, []),
          (⟨(some 35), .load false 1 (.t 34), none⟩, []),
          (⟨(some 36), .append 3 32 [(.int .i64 0), (.int .i64 0), (.str (bs []))] (.c .nil) (.t 35), none⟩, []),
          (⟨(some 37), .move (.t 0), none⟩, []),
          (⟨(some 38), .move (.t 5), none⟩, []),
          (⟨(some 39), .indexAddr 2 (.t 37) (.t 38), none⟩, [16]),
          (⟨(some 40), .fieldAddr 1 (.t 39), none⟩, []),
          (⟨(some 41), .load false 1 (.t 40), none⟩, [16]),
          (⟨(some 42), .build [.nil, (.int .i64 0)] [(0, 1, (.t 36)), (1, 1, (.t 41))], none⟩, []),
          (⟨(some 43), .buildSliceO 2 1 [.nil, (.int .i64 0)] [(0, (.t 42))], none⟩, []),
          (⟨(some 44), .append 2 32 [.nil, (.int .i64 0)] (.t 30) (.t 43), none⟩, []),
          (⟨(some 4), .move (.t 44), none⟩, [])]))))
      (.region [
        ⟨(some 10), .move (.t 5), none⟩,
        ⟨(some 11), .bin .add (.t 10) (.c (.int .i64 1)), none⟩,
        ⟨(some 5), .move (.t 11), none⟩]))))))
  (.seq
  (.region [
    ⟨(some 45), .move (.t 4), none⟩,
    ⟨(some 2), .move (.t 45), none⟩,
    ⟨(some 3), .move (.c (.int .i64 0)), none⟩])
  .ret))))⟩

structure F_warehouseref6_result (P : Program) where
  id : FuncId
  warehouseref6_small : F_warehouseref6_small P
  has : Has P id [43] (c_warehouseref6_result warehouseref6_small.id)

def c_warehouseref6_Same (f_warehouseref1_SameRow : FuncId) : AFunc := ⟨42, [.tmp 4],
  (.seq
  (.region [
    ⟨(some 4), .move (.c (.bool false)), none⟩])
  (.seq
  (.seq
  (.region [
    ⟨(some 6), .move (.t 0), none⟩,
    ⟨(some 7), .len (.t 6), none⟩,
    ⟨(some 8), .move (.t 1), none⟩,
    ⟨(some 9), .len (.t 8), none⟩,
    ⟨(some 10), .bin .neq (.t 7) (.t 9), none⟩])
  (.cond (.t 10)
    (.seq
    (.region [
      ⟨(some 4), .move (.c (.bool false)), none⟩])
    .ret)
    .skip))
  (.seq
  (.seq
  (.region [
    ⟨(some 5), .move (.c (.int .i64 0)), none⟩])
  (.block 0
    (.loop
      (.seq
      (.seq
      (.region [
        ⟨(some 11), .move (.t 5), none⟩,
        ⟨(some 12), .move (.t 0), none⟩,
        ⟨(some 13), .len (.t 12), none⟩,
        ⟨(some 14), .bin .lss (.t 11) (.t 13), none⟩])
      (.cond (.t 14)
        .skip
        (.exit 0)))
      (.seq
      (.block 1
        (.seq
        (.draw [
          (⟨(some 17), .move (.t 0), none⟩, []),
          (⟨(some 18), .move (.t 5), none⟩, []),
          (⟨(some 19), .indexAddr 2 (.t 17) (.t 18), none⟩, []),
          (⟨(some 20), .fieldAddr 1 (.t 19), none⟩, []),
          (⟨(some 21), .load false 1 (.t 20), none⟩, []),
          (⟨(some 22), .move (.t 1), none⟩, []),
          (⟨(some 23), .move (.t 5), none⟩, []),
          (⟨(some 24), .indexAddr 2 (.t 22) (.t 23), none⟩, []),
          (⟨(some 25), .fieldAddr 1 (.t 24), none⟩, []),
          (⟨(some 26), .load false 1 (.t 25), none⟩, []),
          (⟨(some 27), .bin .neq (.t 21) (.t 26), none⟩, []),
          (⟨(some 28), .move (.t 27), none⟩, []),
          (⟨(some 29), .move (.t 0), some (some 28, false)⟩, []),
          (⟨(some 30), .move (.t 5), some (some 28, false)⟩, []),
          (⟨(some 31), .indexAddr 2 (.t 29) (.t 30), some (some 28, false)⟩, []),
          (⟨(some 32), .fieldAddr 0 (.t 31), some (some 28, false)⟩, []),
          (⟨(some 33), .load false 1 (.t 32), some (some 28, false)⟩, []),
          (⟨(some 34), .move (.t 1), some (some 28, false)⟩, []),
          (⟨(some 35), .move (.t 5), some (some 28, false)⟩, []),
          (⟨(some 36), .indexAddr 2 (.t 34) (.t 35), some (some 28, false)⟩, []),
          (⟨(some 37), .fieldAddr 0 (.t 36), some (some 28, false)⟩, []),
          (⟨(some 38), .load false 1 (.t 37), some (some 28, false)⟩, []),
          (⟨(some 39), .call f_warehouseref1_SameRow [(.t 33), (.t 38)], some (some 28, false)⟩, []),
          (⟨(some 40), .un .not (.t 39), some (some 28, false)⟩, []),
          (⟨(some 41), .pick (.t 28) (.c (.bool true)) (.t 40), none⟩, [])])
        (.cond (.t 41)
          (.seq
          (.region [
            ⟨(some 4), .move (.c (.bool false)), none⟩])
          .ret)
          .skip)))
      (.region [
        ⟨(some 15), .move (.t 5), none⟩,
        ⟨(some 16), .bin .add (.t 15) (.c (.int .i64 1)), none⟩,
        ⟨(some 5), .move (.t 16), none⟩]))))))
  (.seq
  (.region [
    ⟨(some 4), .move (.c (.bool true)), none⟩])
  .ret))))⟩

structure F_warehouseref6_Same (P : Program) where
  id : FuncId
  warehouseref1_SameRow : F_warehouseref1_SameRow P
  has : Has P id [] (c_warehouseref6_Same warehouseref1_SameRow.id)

def c_warehouseref17_number : AFunc := ⟨12, [.cell true 3 2],
  (.seq
  (.region [
    ⟨(some 2), .alloc [(.int .i64 0), (.int .i64 0), (.str (bs []))], none⟩])
  (.seq
  (.seq
  (.region [
    ⟨(some 3), .move (.t 0), none⟩,
    ⟨(some 4), .bin .lss (.t 3) (.c (.int .i64 (-1073741824))), none⟩,
    ⟨(some 5), .move (.t 4), none⟩,
    ⟨(some 6), .move (.t 0), some (some 5, false)⟩,
    ⟨(some 7), .bin .gtr (.t 6) (.c (.int .i64 1073741824)), some (some 5, false)⟩,
    ⟨(some 8), .pick (.t 5) (.c (.bool true)) (.t 7), none⟩])
  (.cond (.t 8)
    (.seq
    (.region [
      ⟨(some 9), .build [(.int .i64 0), (.int .i64 0), (.str (bs []))] [], none⟩,
      ⟨none, .store 3 (.t 2) (.t 9), none⟩])
    .ret)
    .skip))
  (.seq
  (.region [
    ⟨(some 10), .move (.t 0), none⟩,
    ⟨(some 11), .build [(.int .i64 0), (.int .i64 0), (.str (bs []))] [(0, 1, (.c (.int .i64 2))), (1, 1, (.t 10))], none⟩,
    ⟨none, .store 3 (.t 2) (.t 11), none⟩])
  .ret)))⟩

structure F_warehouseref17_number (P : Program) where
  id : FuncId
  has : Has P id [] c_warehouseref17_number

end Go.AW

