/-
  Code of functions on the abstract machine, printed by a program out of the translation of AwComp, and bundles of functions with what they call.
  No condition: definitions.
-/
import Derived.Test.YtikifhfpiahnoaaAwExt
namespace Go.AW

/-- The code of warehousebase_Moment. -/
def c_warehousebase_Moment : AFunc := ⟨29, [.tmp 2],
  (.seq
  (.region [
    ⟨(some 2), .move (.c (.int .i64 0)), none⟩])
  (.seq
  (.region [
    ⟨(some 3), .move (.t 0), none⟩,
    ⟨(some 4), .bin .and (.t 3) (.c (.int .i64 65535)), none⟩,
    ⟨(some 0), .move (.t 4), none⟩])
  (.seq
  (.seq
  (.region [
    ⟨(some 5), .move (.t 0), none⟩,
    ⟨(some 6), .bin .shr (.t 5) (.c (.int .u64 8)), none⟩,
    ⟨(some 7), .bin .and (.t 6) (.c (.int .i64 15)), none⟩,
    ⟨(some 8), .bin .eql (.t 7) (.c (.int .i64 0)), none⟩])
  (.cond (.t 8)
    (.seq
    (.region [
      ⟨(some 9), .buildSlice 1 6 [(.int .i64 0)] [(0, (.c (.int .i64 0))), (1, (.c (.int .i64 1))), (2, (.c (.int .i64 575999999))), (3, (.c (.int .i64 575999998))), (4, (.c (.int .i64 1439))), (5, (.c (.int .i64 1440)))], none⟩,
      ⟨(some 10), .move (.t 0), none⟩,
      ⟨(some 11), .bin .rem (.t 10) (.c (.int .i64 6)), none⟩,
      ⟨(some 12), .indexAddr 1 (.t 9) (.t 11), none⟩,
      ⟨(some 13), .load false 1 (.t 12), none⟩,
      ⟨(some 2), .move (.t 13), none⟩])
    .ret)
    .skip))
  (.seq
  (.region [
    ⟨(some 14), .move (.t 0), none⟩,
    ⟨(some 15), .bin .shr (.t 14) (.c (.int .u64 3)), none⟩,
    ⟨(some 16), .bin .and (.t 15) (.c (.int .i64 3)), none⟩,
    ⟨(some 17), .bin .mul (.t 16) (.c (.int .i64 1440)), none⟩,
    ⟨(some 18), .bin .add (.c (.int .i64 144000)) (.t 17), none⟩,
    ⟨(some 19), .move (.t 0), none⟩,
    ⟨(some 20), .bin .rem (.t 19) (.c (.int .i64 7)), none⟩,
    ⟨(some 21), .bin .mul (.t 20) (.c (.int .i64 200)), none⟩,
    ⟨(some 22), .bin .add (.t 18) (.t 21), none⟩,
    ⟨(some 23), .move (.t 0), none⟩,
    ⟨(some 24), .bin .shr (.t 23) (.c (.int .u64 5)), none⟩,
    ⟨(some 25), .bin .and (.t 24) (.c (.int .i64 1)), none⟩,
    ⟨(some 26), .bin .mul (.t 25) (.c (.int .i64 1439)), none⟩,
    ⟨(some 27), .bin .add (.t 22) (.t 26), none⟩,
    ⟨(some 28), .bin .sub (.t 27) (.c (.int .i64 600)), none⟩,
    ⟨(some 2), .move (.t 28), none⟩])
  .ret))))⟩

/-- warehousebase_Moment, and what it calls. -/
structure F_warehousebase_Moment (P : Program) where
  id : FuncId
  has : Has P id [] c_warehousebase_Moment

/-- The code of warehousebase_Value. -/
def c_warehousebase_Value (f_warehousebase_Moment : FuncId) : AFunc := ⟨48, [.cell true 3 4],
  (.seq
  (.region [
    ⟨(some 4), .alloc [(.int .i64 0), (.int .i64 0), (.str (bs []))], none⟩])
  (.seq
  (.region [
    ⟨(some 6), .move (.t 1), none⟩,
    ⟨(some 7), .bin .and (.t 6) (.c (.int .i64 65535)), none⟩,
    ⟨(some 1), .move (.t 7), none⟩])
  (.seq
  (.seq
  (.region [
    ⟨(some 8), .move (.t 0), none⟩])
  (.block 0
    (.seq
    (.region [
      ⟨(some 10), .bin .eql (.t 8) (.c (.int .i64 1)), none⟩,
      ⟨(some 9), .move (.t 10), none⟩])
    (.cond (.t 9)
      (.seq
      (.region [
        ⟨(some 11), .move (.t 1), none⟩,
        ⟨(some 12), .bin .and (.t 11) (.c (.int .i64 1)), none⟩,
        ⟨(some 13), .build [(.int .i64 0), (.int .i64 0), (.str (bs []))] [(0, 1, (.c (.int .i64 1))), (1, 1, (.t 12))], none⟩,
        ⟨none, .store 3 (.t 4) (.t 13), none⟩])
      .ret)
      (.seq
      (.region [
        ⟨(some 15), .bin .eql (.t 8) (.c (.int .i64 2)), none⟩,
        ⟨(some 14), .move (.t 15), none⟩])
      (.cond (.t 14)
        (.seq
        (.region [
          ⟨(some 16), .move (.t 1), none⟩,
          ⟨(some 17), .bin .rem (.t 16) (.c (.int .i64 7)), none⟩,
          ⟨(some 18), .bin .sub (.t 17) (.c (.int .i64 2)), none⟩,
          ⟨(some 5), .move (.t 18), none⟩])
        (.seq
        (.seq
        (.region [
          ⟨(some 19), .move (.t 1), none⟩,
          ⟨(some 20), .bin .shr (.t 19) (.c (.int .u64 8)), none⟩,
          ⟨(some 21), .bin .and (.t 20) (.c (.int .i64 31)), none⟩])
        (.block 1
          (.seq
          (.region [
            ⟨(some 23), .bin .eql (.t 21) (.c (.int .i64 0)), none⟩,
            ⟨(some 22), .move (.t 23), none⟩])
          (.cond (.t 22)
            (.region [
              ⟨(some 24), .move (.t 1), none⟩,
              ⟨(some 25), .bin .and (.t 24) (.c (.int .i64 1)), none⟩,
              ⟨(some 26), .bin .sub (.c (.int .i64 1073741824)) (.t 25), none⟩,
              ⟨(some 5), .move (.t 26), none⟩])
            (.seq
            (.region [
              ⟨(some 28), .bin .eql (.t 21) (.c (.int .i64 1)), none⟩,
              ⟨(some 27), .move (.t 28), none⟩])
            (.cond (.t 27)
              (.region [
                ⟨(some 29), .move (.t 1), none⟩,
                ⟨(some 30), .bin .and (.t 29) (.c (.int .i64 3)), none⟩,
                ⟨(some 31), .bin .sub (.t 30) (.c (.int .i64 1073741824)), none⟩,
                ⟨(some 5), .move (.t 31), none⟩])
              .skip))))))
        (.seq
        (.region [
          ⟨(some 32), .move (.t 5), none⟩,
          ⟨(some 33), .build [(.int .i64 0), (.int .i64 0), (.str (bs []))] [(0, 1, (.c (.int .i64 2))), (1, 1, (.t 32))], none⟩,
          ⟨none, .store 3 (.t 4) (.t 33), none⟩])
        .ret)))
        (.seq
        (.region [
          ⟨(some 35), .bin .eql (.t 8) (.c (.int .i64 3)), none⟩,
          ⟨(some 34), .move (.t 35), none⟩])
        (.cond (.t 34)
          (.seq
          (.region [
            ⟨(some 36), .buildSlice 1 6 [(.str (bs []))] [(0, (.c (.str (bs [97])))), (1, (.c (.str (bs [98])))), (2, (.c (.str (bs [99])))), (3, (.c (.str (bs [])))), (4, (.c (.str (bs [105, 116, 39, 115])))), (5, (.c (.str (bs [97, 32, 98]))))], none⟩,
            ⟨(some 37), .move (.t 1), none⟩,
            ⟨(some 38), .bin .rem (.t 37) (.c (.int .i64 6)), none⟩,
            ⟨(some 39), .indexAddr 1 (.t 36) (.t 38), none⟩,
            ⟨(some 40), .load false 1 (.t 39), none⟩,
            ⟨(some 41), .build [(.int .i64 0), (.int .i64 0), (.str (bs []))] [(0, 1, (.c (.int .i64 3))), (2, 1, (.t 40))], none⟩,
            ⟨none, .store 3 (.t 4) (.t 41), none⟩])
          .ret)
          (.seq
          (.region [
            ⟨(some 43), .bin .eql (.t 8) (.c (.int .i64 4)), none⟩,
            ⟨(some 42), .move (.t 43), none⟩])
          (.cond (.t 42)
            (.seq
            (.region [
              ⟨(some 44), .move (.t 1), none⟩,
              ⟨(some 45), .call f_warehousebase_Moment [(.t 44)], none⟩,
              ⟨(some 46), .build [(.int .i64 0), (.int .i64 0), (.str (bs []))] [(0, 1, (.c (.int .i64 4))), (1, 1, (.t 45))], none⟩,
              ⟨none, .store 3 (.t 4) (.t 46), none⟩])
            .ret)
            .skip))))))))))
  (.seq
  (.region [
    ⟨(some 47), .build [(.int .i64 0), (.int .i64 0), (.str (bs []))] [], none⟩,
    ⟨none, .store 3 (.t 4) (.t 47), none⟩])
  .ret))))⟩

/-- warehousebase_Value, and what it calls. -/
structure F_warehousebase_Value (P : Program) where
  id : FuncId
  warehousebase_Moment : F_warehousebase_Moment P
  has : Has P id [] (c_warehousebase_Value warehousebase_Moment.id)

/-- The code of warehousebase_Any. -/
def c_warehousebase_Any (f_warehousebase_Value : FuncId) : AFunc := ⟨8, [.cell true 3 2],
  (.seq
  (.region [
    ⟨(some 2), .alloc [(.int .i64 0), (.int .i64 0), (.str (bs []))], none⟩])
  (.seq
  (.region [
    ⟨(some 3), .move (.t 0), none⟩,
    ⟨(some 4), .bin .rem (.t 3) (.c (.int .i64 5)), none⟩,
    ⟨(some 5), .move (.t 0), none⟩,
    ⟨(some 6), .bin .quo (.t 5) (.c (.int .i64 5)), none⟩,
    ⟨(some 7), .call f_warehousebase_Value [(.t 4), (.t 6)], none⟩,
    ⟨none, .store 3 (.t 2) (.t 7), none⟩])
  .ret))⟩

/-- warehousebase_Any, and what it calls. -/
structure F_warehousebase_Any (P : Program) where
  id : FuncId
  warehousebase_Value : F_warehousebase_Value P
  has : Has P id [] (c_warehousebase_Any warehousebase_Value.id)

/-- The code of value_Valid. -/
def c_value_Valid : AFunc := ⟨66, [.tmp 2],
  (.seq
  (.region [
    ⟨(some 1), .box (.t 0), none⟩,
    ⟨(some 2), .move (.c (.bool false)), none⟩])
  (.seq
  (.seq
  (.region [
    ⟨(some 3), .fieldAddr 0 (.t 1), none⟩,
    ⟨(some 4), .load false 1 (.t 3), none⟩])
  (.block 0
    (.seq
    (.region [
      ⟨(some 6), .bin .eql (.t 4) (.c (.int .i64 0)), none⟩,
      ⟨(some 5), .move (.t 6), none⟩])
    (.cond (.t 5)
      (.seq
      (.region [
        ⟨(some 7), .load true 3 (.t 1), none⟩,
        ⟨(some 8), .build [(.int .i64 0), (.int .i64 0), (.str (bs []))] [], none⟩,
        ⟨(some 9), .eqs false [1, 1, 2] (.t 7) (.t 8), none⟩,
        ⟨(some 2), .move (.t 9), none⟩])
      .ret)
      (.seq
      (.region [
        ⟨(some 11), .bin .eql (.t 4) (.c (.int .i64 1)), none⟩,
        ⟨(some 10), .move (.t 11), none⟩])
      (.cond (.t 10)
        (.seq
        (.region [
          ⟨(some 12), .fieldAddr 2 (.t 1), none⟩,
          ⟨(some 13), .load false 1 (.t 12), none⟩,
          ⟨(some 14), .bin .eql (.t 13) (.c (.str (bs []))), none⟩,
          ⟨(some 15), .move (.t 14), none⟩,
          ⟨(some 16), .fieldAddr 1 (.t 1), some (some 15, true)⟩,
          ⟨(some 17), .load false 1 (.t 16), some (some 15, true)⟩,
          ⟨(some 18), .bin .eql (.t 17) (.c (.int .i64 0)), some (some 15, true)⟩,
          ⟨(some 19), .move (.t 18), some (some 15, true)⟩,
          ⟨(some 20), .fieldAddr 1 (.t 1), some (some 19, false)⟩,
          ⟨(some 21), .load false 1 (.t 20), some (some 19, false)⟩,
          ⟨(some 22), .bin .eql (.t 21) (.c (.int .i64 1)), some (some 19, false)⟩,
          ⟨(some 23), .pick (.t 19) (.c (.bool true)) (.t 22), some (some 15, true)⟩,
          ⟨(some 24), .pick (.t 15) (.t 23) (.c (.bool false)), none⟩,
          ⟨(some 2), .move (.t 24), none⟩])
        .ret)
        (.seq
        (.region [
          ⟨(some 26), .bin .eql (.t 4) (.c (.int .i64 2)), none⟩,
          ⟨(some 25), .move (.t 26), none⟩])
        (.cond (.t 25)
          (.seq
          (.region [
            ⟨(some 27), .fieldAddr 2 (.t 1), none⟩,
            ⟨(some 28), .load false 1 (.t 27), none⟩,
            ⟨(some 29), .bin .eql (.t 28) (.c (.str (bs []))), none⟩,
            ⟨(some 30), .move (.t 29), none⟩,
            ⟨(some 31), .fieldAddr 1 (.t 1), some (some 30, true)⟩,
            ⟨(some 32), .load false 1 (.t 31), some (some 30, true)⟩,
            ⟨(some 33), .bin .geq (.t 32) (.c (.int .i64 (-1073741824))), some (some 30, true)⟩,
            ⟨(some 34), .pick (.t 30) (.t 33) (.c (.bool false)), none⟩,
            ⟨(some 35), .move (.t 34), none⟩,
            ⟨(some 36), .fieldAddr 1 (.t 1), some (some 35, true)⟩,
            ⟨(some 37), .load false 1 (.t 36), some (some 35, true)⟩,
            ⟨(some 38), .bin .leq (.t 37) (.c (.int .i64 1073741824)), some (some 35, true)⟩,
            ⟨(some 39), .pick (.t 35) (.t 38) (.c (.bool false)), none⟩,
            ⟨(some 2), .move (.t 39), none⟩])
          .ret)
          (.seq
          (.region [
            ⟨(some 41), .bin .eql (.t 4) (.c (.int .i64 3)), none⟩,
            ⟨(some 40), .move (.t 41), none⟩])
          (.cond (.t 40)
            (.seq
            (.region [
              ⟨(some 42), .fieldAddr 1 (.t 1), none⟩,
              ⟨(some 43), .load false 1 (.t 42), none⟩,
              ⟨(some 44), .bin .eql (.t 43) (.c (.int .i64 0)), none⟩,
              ⟨(some 45), .move (.t 44), none⟩,
              ⟨(some 46), .fieldAddr 2 (.t 1), some (some 45, true)⟩,
              ⟨(some 47), .load false 1 (.t 46), some (some 45, true)⟩,
              ⟨(some 48), .lenS (.t 47), some (some 45, true)⟩,
              ⟨(some 49), .bin .leq (.t 48) (.c (.int .i64 64)), some (some 45, true)⟩,
              ⟨(some 50), .pick (.t 45) (.t 49) (.c (.bool false)), none⟩,
              ⟨(some 2), .move (.t 50), none⟩])
            .ret)
            (.seq
            (.region [
              ⟨(some 52), .bin .eql (.t 4) (.c (.int .i64 4)), none⟩,
              ⟨(some 51), .move (.t 52), none⟩])
            (.cond (.t 51)
              (.seq
              (.region [
                ⟨(some 53), .fieldAddr 2 (.t 1), none⟩,
                ⟨(some 54), .load false 1 (.t 53), none⟩,
                ⟨(some 55), .bin .eql (.t 54) (.c (.str (bs []))), none⟩,
                ⟨(some 56), .move (.t 55), none⟩,
                ⟨(some 57), .fieldAddr 1 (.t 1), some (some 56, true)⟩,
                ⟨(some 58), .load false 1 (.t 57), some (some 56, true)⟩,
                ⟨(some 59), .bin .geq (.t 58) (.c (.int .i64 0)), some (some 56, true)⟩,
                ⟨(some 60), .pick (.t 56) (.t 59) (.c (.bool false)), none⟩,
                ⟨(some 61), .move (.t 60), none⟩,
                ⟨(some 62), .fieldAddr 1 (.t 1), some (some 61, true)⟩,
                ⟨(some 63), .load false 1 (.t 62), some (some 61, true)⟩,
                ⟨(some 64), .bin .leq (.t 63) (.c (.int .i64 575999999)), some (some 61, true)⟩,
                ⟨(some 65), .pick (.t 61) (.t 64) (.c (.bool false)), none⟩,
                ⟨(some 2), .move (.t 65), none⟩])
              .ret)
              .skip))))))))))))
  (.seq
  (.region [
    ⟨(some 2), .move (.c (.bool false)), none⟩])
  .ret)))⟩

/-- value_Valid, and what it calls. -/
structure F_value_Valid (P : Program) where
  id : FuncId
  has : Has P id [] c_value_Valid

/-- The code of warehouseref1_Valid. -/
def c_warehouseref1_Valid : AFunc := ⟨71, [.tmp 2],
  (.seq
  (.region [
    ⟨(some 1), .box (.t 0), none⟩,
    ⟨(some 2), .move (.c (.bool false)), none⟩])
  (.seq
  (.seq
  (.region [
    ⟨(some 3), .fieldAddr 0 (.t 1), none⟩,
    ⟨(some 4), .load false 1 (.t 3), none⟩])
  (.block 0
    (.seq
    (.region [
      ⟨(some 6), .bin .eql (.t 4) (.c (.int .i64 0)), none⟩,
      ⟨(some 5), .move (.t 6), none⟩])
    (.cond (.t 5)
      (.seq
      (.region [
        ⟨(some 7), .fieldAddr 1 (.t 1), none⟩,
        ⟨(some 8), .load false 1 (.t 7), none⟩,
        ⟨(some 9), .bin .eql (.t 8) (.c (.int .i64 0)), none⟩,
        ⟨(some 10), .move (.t 9), none⟩,
        ⟨(some 11), .fieldAddr 2 (.t 1), some (some 10, true)⟩,
        ⟨(some 12), .load false 1 (.t 11), some (some 10, true)⟩,
        ⟨(some 13), .bin .eql (.t 12) (.c (.str (bs []))), some (some 10, true)⟩,
        ⟨(some 14), .pick (.t 10) (.t 13) (.c (.bool false)), none⟩,
        ⟨(some 2), .move (.t 14), none⟩])
      .ret)
      (.seq
      (.region [
        ⟨(some 16), .bin .eql (.t 4) (.c (.int .i64 1)), none⟩,
        ⟨(some 15), .move (.t 16), none⟩])
      (.cond (.t 15)
        (.seq
        (.region [
          ⟨(some 17), .fieldAddr 1 (.t 1), none⟩,
          ⟨(some 18), .load false 1 (.t 17), none⟩,
          ⟨(some 19), .bin .eql (.t 18) (.c (.int .i64 0)), none⟩,
          ⟨(some 20), .move (.t 19), none⟩,
          ⟨(some 21), .fieldAddr 1 (.t 1), some (some 20, false)⟩,
          ⟨(some 22), .load false 1 (.t 21), some (some 20, false)⟩,
          ⟨(some 23), .bin .eql (.t 22) (.c (.int .i64 1)), some (some 20, false)⟩,
          ⟨(some 24), .pick (.t 20) (.c (.bool true)) (.t 23), none⟩,
          ⟨(some 25), .move (.t 24), none⟩,
          ⟨(some 26), .fieldAddr 2 (.t 1), some (some 25, true)⟩,
          ⟨(some 27), .load false 1 (.t 26), some (some 25, true)⟩,
          ⟨(some 28), .bin .eql (.t 27) (.c (.str (bs []))), some (some 25, true)⟩,
          ⟨(some 29), .pick (.t 25) (.t 28) (.c (.bool false)), none⟩,
          ⟨(some 2), .move (.t 29), none⟩])
        .ret)
        (.seq
        (.region [
          ⟨(some 31), .bin .eql (.t 4) (.c (.int .i64 2)), none⟩,
          ⟨(some 30), .move (.t 31), none⟩])
        (.cond (.t 30)
          (.seq
          (.region [
            ⟨(some 32), .fieldAddr 1 (.t 1), none⟩,
            ⟨(some 33), .load false 1 (.t 32), none⟩,
            ⟨(some 34), .bin .geq (.t 33) (.c (.int .i64 (-1073741824))), none⟩,
            ⟨(some 35), .move (.t 34), none⟩,
            ⟨(some 36), .fieldAddr 1 (.t 1), some (some 35, true)⟩,
            ⟨(some 37), .load false 1 (.t 36), some (some 35, true)⟩,
            ⟨(some 38), .bin .leq (.t 37) (.c (.int .i64 1073741824)), some (some 35, true)⟩,
            ⟨(some 39), .pick (.t 35) (.t 38) (.c (.bool false)), none⟩,
            ⟨(some 40), .move (.t 39), none⟩,
            ⟨(some 41), .fieldAddr 2 (.t 1), some (some 40, true)⟩,
            ⟨(some 42), .load false 1 (.t 41), some (some 40, true)⟩,
            ⟨(some 43), .bin .eql (.t 42) (.c (.str (bs []))), some (some 40, true)⟩,
            ⟨(some 44), .pick (.t 40) (.t 43) (.c (.bool false)), none⟩,
            ⟨(some 2), .move (.t 44), none⟩])
          .ret)
          (.seq
          (.region [
            ⟨(some 46), .bin .eql (.t 4) (.c (.int .i64 3)), none⟩,
            ⟨(some 45), .move (.t 46), none⟩])
          (.cond (.t 45)
            (.seq
            (.region [
              ⟨(some 47), .fieldAddr 1 (.t 1), none⟩,
              ⟨(some 48), .load false 1 (.t 47), none⟩,
              ⟨(some 49), .bin .eql (.t 48) (.c (.int .i64 0)), none⟩,
              ⟨(some 50), .move (.t 49), none⟩,
              ⟨(some 51), .fieldAddr 2 (.t 1), some (some 50, true)⟩,
              ⟨(some 52), .load false 1 (.t 51), some (some 50, true)⟩,
              ⟨(some 53), .lenS (.t 52), some (some 50, true)⟩,
              ⟨(some 54), .bin .leq (.t 53) (.c (.int .i64 64)), some (some 50, true)⟩,
              ⟨(some 55), .pick (.t 50) (.t 54) (.c (.bool false)), none⟩,
              ⟨(some 2), .move (.t 55), none⟩])
            .ret)
            (.seq
            (.region [
              ⟨(some 57), .bin .eql (.t 4) (.c (.int .i64 4)), none⟩,
              ⟨(some 56), .move (.t 57), none⟩])
            (.cond (.t 56)
              (.seq
              (.region [
                ⟨(some 58), .fieldAddr 1 (.t 1), none⟩,
                ⟨(some 59), .load false 1 (.t 58), none⟩,
                ⟨(some 60), .bin .geq (.t 59) (.c (.int .i64 0)), none⟩,
                ⟨(some 61), .move (.t 60), none⟩,
                ⟨(some 62), .fieldAddr 1 (.t 1), some (some 61, true)⟩,
                ⟨(some 63), .load false 1 (.t 62), some (some 61, true)⟩,
                ⟨(some 64), .bin .leq (.t 63) (.c (.int .i64 575999999)), some (some 61, true)⟩,
                ⟨(some 65), .pick (.t 61) (.t 64) (.c (.bool false)), none⟩,
                ⟨(some 66), .move (.t 65), none⟩,
                ⟨(some 67), .fieldAddr 2 (.t 1), some (some 66, true)⟩,
                ⟨(some 68), .load false 1 (.t 67), some (some 66, true)⟩,
                ⟨(some 69), .bin .eql (.t 68) (.c (.str (bs []))), some (some 66, true)⟩,
                ⟨(some 70), .pick (.t 66) (.t 69) (.c (.bool false)), none⟩,
                ⟨(some 2), .move (.t 70), none⟩])
              .ret)
              .skip))))))))))))
  (.seq
  (.region [
    ⟨(some 2), .move (.c (.bool false)), none⟩])
  .ret)))⟩

/-- warehouseref1_Valid, and what it calls. -/
structure F_warehouseref1_Valid (P : Program) where
  id : FuncId
  has : Has P id [] c_warehouseref1_Valid

/-- The code of value_word. -/
def c_value_word : AFunc := ⟨19, [.tmp 4],
  (.seq
  (.region [
    ⟨(some 4), .move (.c .nil), none⟩])
  (.seq
  (.region [
    ⟨(some 5), .move (.t 0), none⟩,
    ⟨(some 6), .move (.t 1), none⟩,
    ⟨(some 7), .bin .shr (.t 6) (.c (.int .u64 24)), none⟩,
    ⟨(some 8), .conv .u8 (.t 7), none⟩,
    ⟨(some 9), .move (.t 1), none⟩,
    ⟨(some 10), .bin .shr (.t 9) (.c (.int .u64 16)), none⟩,
    ⟨(some 11), .conv .u8 (.t 10), none⟩,
    ⟨(some 12), .move (.t 1), none⟩,
    ⟨(some 13), .bin .shr (.t 12) (.c (.int .u64 8)), none⟩,
    ⟨(some 14), .conv .u8 (.t 13), none⟩,
    ⟨(some 15), .move (.t 1), none⟩,
    ⟨(some 16), .conv .u8 (.t 15), none⟩,
    ⟨(some 17), .buildSlice 1 4 [(.int .u8 0)] [(0, (.t 8)), (1, (.t 11)), (2, (.t 14)), (3, (.t 16))], none⟩,
    ⟨(some 18), .append 1 1 [(.int .u8 0)] (.t 5) (.t 17), none⟩,
    ⟨(some 4), .move (.t 18), none⟩])
  .ret))⟩

/-- value_word, and what it calls. -/
structure F_value_word (P : Program) where
  id : FuncId
  has : Has P id [] c_value_word

/-- The code of value_Encode. -/
def c_value_Encode (f_value_Valid : FuncId) (f_value_word : FuncId) : AFunc := ⟨67, [.tmp 2, .tmp 3],
  (.seq
  (.region [
    ⟨(some 2), .move (.c .nil), none⟩,
    ⟨(some 3), .move (.c (.int .i64 0)), none⟩])
  (.seq
  (.seq
  (.region [
    ⟨(some 7), .move (.t 0), none⟩,
    ⟨(some 8), .len (.t 7), none⟩,
    ⟨(some 9), .bin .gtr (.t 8) (.c (.int .i64 12)), none⟩])
  (.cond (.t 9)
    (.seq
    (.region [
      ⟨(some 2), .move (.c .nil), none⟩,
      ⟨(some 3), .move (.c (.int .i64 2)), none⟩])
    .ret)
    .skip))
  (.seq
  (.region [
    ⟨(some 10), .move (.t 0), none⟩,
    ⟨(some 11), .len (.t 10), none⟩,
    ⟨(some 12), .conv .u8 (.t 11), none⟩,
    ⟨(some 13), .buildSliceO 1 1 [(.int .u8 0)] [(0, (.t 12))], none⟩,
    ⟨(some 4), .move (.t 13), none⟩])
  (.seq
  (.seq
  (.region [
    ⟨(some 14), .move (.t 0), none⟩,
    ⟨(some 15), .len (.t 14), none⟩,
    ⟨(some 16), .move (.c (.int .i64 0)), none⟩])
  (.block 0
    (.loop
      (.seq
      (.region [
        ⟨(some 17), .bin .lss (.t 16) (.t 15), none⟩])
      (.seq
      (.cond (.t 17)
        .skip
        (.exit 0))
      (.seq
      (.block 1
        (.seq
        (.region [
          ⟨(some 18), .indexAddr 3 (.t 14) (.t 16), none⟩,
          ⟨(some 19), .load true 3 (.t 18), none⟩,
          ⟨(some 6), .alloc [(.int .i64 0), (.int .i64 0), (.str (bs []))], none⟩,
          ⟨none, .store 3 (.t 6) (.t 19), none⟩])
        (.seq
        (.seq
        (.region [
          ⟨(some 20), .load true 3 (.t 6), none⟩,
          ⟨(some 21), .call f_value_Valid [(.t 20)], none⟩,
          ⟨(some 22), .un .not (.t 21), none⟩])
        (.cond (.t 22)
          (.seq
          (.region [
            ⟨(some 2), .move (.c .nil), none⟩,
            ⟨(some 3), .move (.c (.int .i64 8)), none⟩])
          .ret)
          .skip))
        (.seq
        (.region [
          ⟨(some 23), .move (.t 4), none⟩,
          ⟨(some 24), .fieldAddr 0 (.t 6), none⟩,
          ⟨(some 25), .load false 1 (.t 24), none⟩,
          ⟨(some 26), .conv .u8 (.t 25), none⟩,
          ⟨(some 27), .buildSlice 1 1 [(.int .u8 0)] [(0, (.t 26))], none⟩,
          ⟨(some 28), .append 1 1 [(.int .u8 0)] (.t 23) (.t 27), none⟩,
          ⟨(some 4), .move (.t 28), none⟩])
        (.seq
        (.region [
          ⟨(some 29), .fieldAddr 0 (.t 6), none⟩,
          ⟨(some 30), .load false 1 (.t 29), none⟩])
        (.block 2
          (.seq
          (.region [
            ⟨(some 32), .bin .eql (.t 30) (.c (.int .i64 1)), none⟩,
            ⟨(some 31), .move (.t 32), none⟩])
          (.cond (.t 31)
            (.region [
              ⟨(some 33), .move (.t 4), none⟩,
              ⟨(some 34), .fieldAddr 1 (.t 6), none⟩,
              ⟨(some 35), .load false 1 (.t 34), none⟩,
              ⟨(some 36), .conv .u8 (.t 35), none⟩,
              ⟨(some 37), .buildSlice 1 1 [(.int .u8 0)] [(0, (.t 36))], none⟩,
              ⟨(some 38), .append 1 1 [(.int .u8 0)] (.t 33) (.t 37), none⟩,
              ⟨(some 4), .move (.t 38), none⟩])
            (.seq
            (.region [
              ⟨(some 40), .bin .eql (.t 30) (.c (.int .i64 2)), none⟩,
              ⟨(some 39), .move (.t 40), none⟩])
            (.cond (.t 39)
              (.region [
                ⟨(some 41), .move (.t 4), none⟩,
                ⟨(some 42), .fieldAddr 1 (.t 6), none⟩,
                ⟨(some 43), .load false 1 (.t 42), none⟩,
                ⟨(some 44), .bin .add (.t 43) (.c (.int .i64 1073741824)), none⟩,
                ⟨(some 45), .call f_value_word [(.t 41), (.t 44)], none⟩,
                ⟨(some 4), .move (.t 45), none⟩])
              (.seq
              (.region [
                ⟨(some 47), .bin .eql (.t 30) (.c (.int .i64 4)), none⟩,
                ⟨(some 46), .move (.t 47), none⟩])
              (.cond (.t 46)
                (.region [
                  ⟨(some 48), .move (.t 4), none⟩,
                  ⟨(some 49), .fieldAddr 1 (.t 6), none⟩,
                  ⟨(some 50), .load false 1 (.t 49), none⟩,
                  ⟨(some 51), .call f_value_word [(.t 48), (.t 50)], none⟩,
                  ⟨(some 4), .move (.t 51), none⟩])
                (.seq
                (.region [
                  ⟨(some 53), .bin .eql (.t 30) (.c (.int .i64 3)), none⟩,
                  ⟨(some 52), .move (.t 53), none⟩])
                (.cond (.t 52)
                  (.seq
                  (.region [
                    ⟨(some 54), .move (.t 4), none⟩,
                    ⟨(some 55), .fieldAddr 2 (.t 6), none⟩,
                    ⟨(some 56), .load false 1 (.t 55), none⟩,
                    ⟨(some 57), .lenS (.t 56), none⟩,
                    ⟨(some 58), .conv .u8 (.t 57), none⟩,
                    ⟨(some 59), .buildSlice 1 1 [(.int .u8 0)] [(0, (.t 58))], none⟩,
                    ⟨(some 60), .append 1 1 [(.int .u8 0)] (.t 54) (.t 59), none⟩,
                    ⟨(some 4), .move (.t 60), none⟩])
                  (.region [
                    ⟨(some 61), .move (.t 4), none⟩,
                    ⟨(some 62), .fieldAddr 2 (.t 6), none⟩,
                    ⟨(some 63), .load false 1 (.t 62), none⟩,
                    ⟨(some 64), .append 1 1 [(.int .u8 0)] (.t 61) (.t 63), none⟩,
                    ⟨(some 4), .move (.t 64), none⟩]))
                  .skip))))))))))))))
      (.region [
        ⟨(some 65), .bin .add (.t 16) (.c (.int .i64 1)), none⟩,
        ⟨(some 16), .move (.t 65), none⟩])))))))
  (.seq
  (.region [
    ⟨(some 66), .move (.t 4), none⟩,
    ⟨(some 2), .move (.t 66), none⟩,
    ⟨(some 3), .move (.c (.int .i64 0)), none⟩])
  .ret)))))⟩

/-- value_Encode, and what it calls. -/
structure F_value_Encode (P : Program) where
  id : FuncId
  value_Valid : F_value_Valid P
  value_word : F_value_word P
  has : Has P id [13] (c_value_Encode value_Valid.id value_word.id)

/-- The code of cmp_isNaN_int. -/
def c_cmp_isNaN_int : AFunc := ⟨6, [.tmp 2],
  (.seq
  (.region [
    ⟨(some 2), .move (.c (.bool false)), none⟩])
  (.seq
  (.region [
    ⟨(some 3), .move (.t 0), none⟩,
    ⟨(some 4), .move (.t 0), none⟩,
    ⟨(some 5), .bin .neq (.t 3) (.t 4), none⟩,
    ⟨(some 2), .move (.t 5), none⟩])
  .ret))⟩

/-- cmp_isNaN_int, and what it calls. -/
structure F_cmp_isNaN_int (P : Program) where
  id : FuncId
  has : Has P id [] c_cmp_isNaN_int

/-- The code of cmp_Compare_int. -/
def c_cmp_Compare_int (f_cmp_isNaN_int : FuncId) : AFunc := ⟨20, [.tmp 4],
  (.seq
  (.region [
    ⟨(some 4), .move (.c (.int .i64 0)), none⟩])
  (.seq
  (.region [
    ⟨(some 7), .move (.t 0), none⟩,
    ⟨(some 8), .call f_cmp_isNaN_int [(.t 7)], none⟩,
    ⟨(some 5), .move (.t 8), none⟩])
  (.seq
  (.region [
    ⟨(some 9), .move (.t 1), none⟩,
    ⟨(some 10), .call f_cmp_isNaN_int [(.t 9)], none⟩,
    ⟨(some 6), .move (.t 10), none⟩])
  (.seq
  (.seq
  (.region [
    ⟨(some 11), .move (.t 5), none⟩])
  (.cond (.t 11)
    (.seq
    (.seq
    (.region [
      ⟨(some 12), .move (.t 6), none⟩])
    (.cond (.t 12)
      (.seq
      (.region [
        ⟨(some 4), .move (.c (.int .i64 0)), none⟩])
      .ret)
      .skip))
    (.seq
    (.region [
      ⟨(some 4), .move (.c (.int .i64 (-1))), none⟩])
    .ret))
    .skip))
  (.seq
  (.seq
  (.region [
    ⟨(some 13), .move (.t 6), none⟩])
  (.cond (.t 13)
    (.seq
    (.region [
      ⟨(some 4), .move (.c (.int .i64 1)), none⟩])
    .ret)
    .skip))
  (.seq
  (.seq
  (.region [
    ⟨(some 14), .move (.t 0), none⟩,
    ⟨(some 15), .move (.t 1), none⟩,
    ⟨(some 16), .bin .lss (.t 14) (.t 15), none⟩])
  (.cond (.t 16)
    (.seq
    (.region [
      ⟨(some 4), .move (.c (.int .i64 (-1))), none⟩])
    .ret)
    .skip))
  (.seq
  (.seq
  (.region [
    ⟨(some 17), .move (.t 0), none⟩,
    ⟨(some 18), .move (.t 1), none⟩,
    ⟨(some 19), .bin .gtr (.t 17) (.t 18), none⟩])
  (.cond (.t 19)
    (.seq
    (.region [
      ⟨(some 4), .move (.c (.int .i64 1)), none⟩])
    .ret)
    .skip))
  (.seq
  (.region [
    ⟨(some 4), .move (.c (.int .i64 0)), none⟩])
  .ret))))))))⟩

/-- cmp_Compare_int, and what it calls. -/
structure F_cmp_Compare_int (P : Program) where
  id : FuncId
  cmp_isNaN_int : F_cmp_isNaN_int P
  has : Has P id [] (c_cmp_Compare_int cmp_isNaN_int.id)

/-- The code of cmp_isNaN_string. -/
def c_cmp_isNaN_string : AFunc := ⟨6, [.tmp 2],
  (.seq
  (.region [
    ⟨(some 2), .move (.c (.bool false)), none⟩])
  (.seq
  (.region [
    ⟨(some 3), .move (.t 0), none⟩,
    ⟨(some 4), .move (.t 0), none⟩,
    ⟨(some 5), .bin .neq (.t 3) (.t 4), none⟩,
    ⟨(some 2), .move (.t 5), none⟩])
  .ret))⟩

/-- cmp_isNaN_string, and what it calls. -/
structure F_cmp_isNaN_string (P : Program) where
  id : FuncId
  has : Has P id [] c_cmp_isNaN_string

/-- The code of cmp_Compare_string. -/
def c_cmp_Compare_string (f_cmp_isNaN_string : FuncId) : AFunc := ⟨20, [.tmp 4],
  (.seq
  (.region [
    ⟨(some 4), .move (.c (.int .i64 0)), none⟩])
  (.seq
  (.region [
    ⟨(some 7), .move (.t 0), none⟩,
    ⟨(some 8), .call f_cmp_isNaN_string [(.t 7)], none⟩,
    ⟨(some 5), .move (.t 8), none⟩])
  (.seq
  (.region [
    ⟨(some 9), .move (.t 1), none⟩,
    ⟨(some 10), .call f_cmp_isNaN_string [(.t 9)], none⟩,
    ⟨(some 6), .move (.t 10), none⟩])
  (.seq
  (.seq
  (.region [
    ⟨(some 11), .move (.t 5), none⟩])
  (.cond (.t 11)
    (.seq
    (.seq
    (.region [
      ⟨(some 12), .move (.t 6), none⟩])
    (.cond (.t 12)
      (.seq
      (.region [
        ⟨(some 4), .move (.c (.int .i64 0)), none⟩])
      .ret)
      .skip))
    (.seq
    (.region [
      ⟨(some 4), .move (.c (.int .i64 (-1))), none⟩])
    .ret))
    .skip))
  (.seq
  (.seq
  (.region [
    ⟨(some 13), .move (.t 6), none⟩])
  (.cond (.t 13)
    (.seq
    (.region [
      ⟨(some 4), .move (.c (.int .i64 1)), none⟩])
    .ret)
    .skip))
  (.seq
  (.seq
  (.region [
    ⟨(some 14), .move (.t 0), none⟩,
    ⟨(some 15), .move (.t 1), none⟩,
    ⟨(some 16), .bin .lss (.t 14) (.t 15), none⟩])
  (.cond (.t 16)
    (.seq
    (.region [
      ⟨(some 4), .move (.c (.int .i64 (-1))), none⟩])
    .ret)
    .skip))
  (.seq
  (.seq
  (.region [
    ⟨(some 17), .move (.t 0), none⟩,
    ⟨(some 18), .move (.t 1), none⟩,
    ⟨(some 19), .bin .gtr (.t 17) (.t 18), none⟩])
  (.cond (.t 19)
    (.seq
    (.region [
      ⟨(some 4), .move (.c (.int .i64 1)), none⟩])
    .ret)
    .skip))
  (.seq
  (.region [
    ⟨(some 4), .move (.c (.int .i64 0)), none⟩])
  .ret))))))))⟩

/-- cmp_Compare_string, and what it calls. -/
structure F_cmp_Compare_string (P : Program) where
  id : FuncId
  cmp_isNaN_string : F_cmp_isNaN_string P
  has : Has P id [] (c_cmp_Compare_string cmp_isNaN_string.id)

/-- The code of cmp_Or_int. -/
def c_cmp_Or_int : AFunc := ⟨18, [.tmp 2],
  (.seq
  (.region [
    ⟨(some 2), .move (.c (.int .i64 0)), none⟩])
  (.seq
  (.region [
    ⟨(some 3), .move (.c (.int .i64 0)), none⟩])
  (.seq
  (.seq
  (.region [
    ⟨(some 6), .move (.t 0), none⟩,
    ⟨(some 7), .len (.t 6), none⟩,
    ⟨(some 8), .move (.c (.int .i64 0)), none⟩])
  (.block 0
    (.loop
      (.seq
      (.region [
        ⟨(some 9), .bin .lss (.t 8) (.t 7), none⟩])
      (.seq
      (.cond (.t 9)
        .skip
        (.exit 0))
      (.seq
      (.block 1
        (.seq
        (.region [
          ⟨(some 10), .indexAddr 1 (.t 6) (.t 8), none⟩,
          ⟨(some 11), .load false 1 (.t 10), none⟩,
          ⟨(some 5), .move (.t 11), none⟩])
        (.seq
        (.region [
          ⟨(some 12), .move (.t 5), none⟩,
          ⟨(some 13), .move (.t 3), none⟩,
          ⟨(some 14), .bin .neq (.t 12) (.t 13), none⟩])
        (.cond (.t 14)
          (.seq
          (.region [
            ⟨(some 15), .move (.t 5), none⟩,
            ⟨(some 2), .move (.t 15), none⟩])
          .ret)
          .skip))))
      (.region [
        ⟨(some 16), .bin .add (.t 8) (.c (.int .i64 1)), none⟩,
        ⟨(some 8), .move (.t 16), none⟩])))))))
  (.seq
  (.region [
    ⟨(some 17), .move (.t 3), none⟩,
    ⟨(some 2), .move (.t 17), none⟩])
  .ret))))⟩

/-- cmp_Or_int, and what it calls. -/
structure F_cmp_Or_int (P : Program) where
  id : FuncId
  has : Has P id [] c_cmp_Or_int

/-- The code of value_Compare. -/
def c_value_Compare (f_cmp_Compare_int : FuncId) (f_cmp_Compare_string : FuncId) (f_cmp_Or_int : FuncId) : AFunc := ⟨22, [.tmp 4],
  (.seq
  (.region [
    ⟨(some 2), .box (.t 0), none⟩,
    ⟨(some 3), .box (.t 1), none⟩,
    ⟨(some 4), .move (.c (.int .i64 0)), none⟩])
  (.seq
  (.draw [
    (⟨(some 5), .fieldAddr 0 (.t 2), none⟩, []),
    (⟨(some 6), .load false 1 (.t 5), none⟩, []),
    (⟨(some 7), .fieldAddr 0 (.t 3), none⟩, []),
    (⟨(some 8), .load false 1 (.t 7), none⟩, []),
    (⟨(some 9), .call f_cmp_Compare_int [(.t 6), (.t 8)], none⟩, []),
    (⟨(some 10), .fieldAddr 1 (.t 2), none⟩, []),
    (⟨(some 11), .load false 1 (.t 10), none⟩, []),
    (⟨(some 12), .fieldAddr 1 (.t 3), none⟩, []),
    (⟨(some 13), .load false 1 (.t 12), none⟩, []),
    (⟨(some 14), .call f_cmp_Compare_int [(.t 11), (.t 13)], none⟩, []),
    (⟨(some 15), .fieldAddr 2 (.t 2), none⟩, []),
    (⟨(some 16), .load false 1 (.t 15), none⟩, []),
    (⟨(some 17), .fieldAddr 2 (.t 3), none⟩, []),
    (⟨(some 18), .load false 1 (.t 17), none⟩, []),
    (⟨(some 19), .call f_cmp_Compare_string [(.t 16), (.t 18)], none⟩, []),
    (⟨(some 20), .buildSlice 1 3 [(.int .i64 0)] [(0, (.t 9)), (1, (.t 14)), (2, (.t 19))], none⟩, []),
    (⟨(some 21), .call f_cmp_Or_int [(.t 20)], none⟩, []),
    (⟨(some 4), .move (.t 21), none⟩, [])])
  .ret))⟩

/-- value_Compare, and what it calls. -/
structure F_value_Compare (P : Program) where
  id : FuncId
  cmp_Compare_int : F_cmp_Compare_int P
  cmp_Compare_string : F_cmp_Compare_string P
  cmp_Or_int : F_cmp_Or_int P
  has : Has P id [] (c_value_Compare cmp_Compare_int.id cmp_Compare_string.id cmp_Or_int.id)

/-- The code of value_Truth. -/
def c_value_Truth (f_value_Valid : FuncId) : AFunc := ⟨13, [.tmp 2],
  (.seq
  (.region [
    ⟨(some 1), .box (.t 0), none⟩,
    ⟨(some 2), .move (.c (.int .i64 0)), none⟩])
  (.seq
  (.seq
  (.region [
    ⟨(some 3), .fieldAddr 0 (.t 1), none⟩,
    ⟨(some 4), .load false 1 (.t 3), none⟩,
    ⟨(some 5), .bin .neq (.t 4) (.c (.int .i64 1)), none⟩,
    ⟨(some 6), .move (.t 5), none⟩,
    ⟨(some 7), .load true 3 (.t 1), some (some 6, false)⟩,
    ⟨(some 8), .call f_value_Valid [(.t 7)], some (some 6, false)⟩,
    ⟨(some 9), .un .not (.t 8), some (some 6, false)⟩,
    ⟨(some 10), .pick (.t 6) (.c (.bool true)) (.t 9), none⟩])
  (.cond (.t 10)
    (.seq
    (.region [
      ⟨(some 2), .move (.c (.int .i64 (-1))), none⟩])
    .ret)
    .skip))
  (.seq
  (.region [
    ⟨(some 11), .fieldAddr 1 (.t 1), none⟩,
    ⟨(some 12), .load false 1 (.t 11), none⟩,
    ⟨(some 2), .move (.t 12), none⟩])
  .ret)))⟩

/-- value_Truth, and what it calls. -/
structure F_value_Truth (P : Program) where
  id : FuncId
  value_Valid : F_value_Valid P
  has : Has P id [] (c_value_Truth value_Valid.id)

/-- The code of warehouselaw1_known. -/
def c_warehouselaw1_known (f_value_Encode : FuncId) (f_value_Compare : FuncId) (f_value_Valid : FuncId) (f_value_Truth : FuncId) : AFunc := ⟨40, [.tmp 0],
  (.seq
  (.region [
    ⟨(some 0), .move (.c (.bool false)), none⟩])
  (.seq
  (.region [
    ⟨(some 4), .build [(.int .i64 0), (.int .i64 0), (.str (bs []))] [(0, 1, (.c (.int .i64 1))), (1, 1, (.c (.int .i64 1)))], none⟩,
    ⟨(some 5), .build [(.int .i64 0), (.int .i64 0), (.str (bs []))] [(0, 1, (.c (.int .i64 3))), (2, 1, (.c (.str (bs [97, 98]))))], none⟩,
    ⟨(some 6), .buildSlice 3 2 [(.int .i64 0), (.int .i64 0), (.str (bs []))] [(0, (.t 4)), (1, (.t 5))], none⟩,
    ⟨(some 1), .move (.t 6), none⟩])
  (.seq
  (.region [
    ⟨(some 8), .move (.t 1), none⟩,
    ⟨(some 9), .call f_value_Encode [(.t 8)], none⟩,
    ⟨(some 7), .move (.t 9), none⟩,
    ⟨(some 10), .extract (.t 7) 0, none⟩,
    ⟨(some 11), .extract (.t 7) 1, none⟩,
    ⟨(some 2), .move (.t 10), none⟩,
    ⟨(some 3), .move (.t 11), none⟩])
  (.seq
  (.region [
    ⟨(some 12), .move (.t 3), none⟩,
    ⟨(some 13), .bin .eql (.t 12) (.c (.int .i64 0)), none⟩,
    ⟨(some 14), .move (.t 13), none⟩,
    ⟨(some 15), .move (.t 2), some (some 14, true)⟩,
    ⟨(some 16), .convBS (.t 15), some (some 14, true)⟩,
    ⟨(some 17), .bin .eql (.t 16) (.c (.str (bs [2, 1, 1, 3, 2, 97, 98]))), some (some 14, true)⟩,
    ⟨(some 18), .pick (.t 14) (.t 17) (.c (.bool false)), none⟩,
    ⟨(some 19), .move (.t 18), none⟩,
    ⟨(some 20), .build [(.int .i64 0), (.int .i64 0), (.str (bs []))] [], some (some 19, true)⟩,
    ⟨(some 21), .move (.t 1), some (some 19, true)⟩,
    ⟨(some 22), .indexAddr 3 (.t 21) (.c (.int .i64 0)), some (some 19, true)⟩,
    ⟨(some 23), .load true 3 (.t 22), some (some 19, true)⟩,
    ⟨(some 24), .call f_value_Compare [(.t 20), (.t 23)], some (some 19, true)⟩,
    ⟨(some 25), .bin .eql (.t 24) (.c (.int .i64 (-1))), some (some 19, true)⟩,
    ⟨(some 26), .pick (.t 19) (.t 25) (.c (.bool false)), none⟩,
    ⟨(some 27), .move (.t 26), none⟩,
    ⟨(some 28), .move (.t 1), some (some 27, true)⟩,
    ⟨(some 29), .indexAddr 3 (.t 28) (.c (.int .i64 1)), some (some 27, true)⟩,
    ⟨(some 30), .load true 3 (.t 29), some (some 27, true)⟩,
    ⟨(some 31), .call f_value_Valid [(.t 30)], some (some 27, true)⟩,
    ⟨(some 32), .pick (.t 27) (.t 31) (.c (.bool false)), none⟩,
    ⟨(some 33), .move (.t 32), none⟩,
    ⟨(some 34), .move (.t 1), some (some 33, true)⟩,
    ⟨(some 35), .indexAddr 3 (.t 34) (.c (.int .i64 0)), some (some 33, true)⟩,
    ⟨(some 36), .load true 3 (.t 35), some (some 33, true)⟩,
    ⟨(some 37), .call f_value_Truth [(.t 36)], some (some 33, true)⟩,
    ⟨(some 38), .bin .eql (.t 37) (.c (.int .i64 1)), some (some 33, true)⟩,
    ⟨(some 39), .pick (.t 33) (.t 38) (.c (.bool false)), none⟩,
    ⟨(some 0), .move (.t 39), none⟩])
  .ret))))⟩

/-- warehouselaw1_known, and what it calls. -/
structure F_warehouselaw1_known (P : Program) where
  id : FuncId
  value_Encode : F_value_Encode P
  value_Compare : F_value_Compare P
  value_Valid : F_value_Valid P
  value_Truth : F_value_Truth P
  has : Has P id [] (c_warehouselaw1_known value_Encode.id value_Compare.id value_Valid.id value_Truth.id)

/-- The code of warehouselaw1_ValueValidates. -/
def c_warehouselaw1_ValueValidates (f_warehousebase_Any : FuncId) (f_value_Valid : FuncId) (f_warehouseref1_Valid : FuncId) (f_warehouselaw1_known : FuncId) : AFunc := ⟨30, [.tmp 4],
  (.seq
  (.region [
    ⟨(some 2), .box (.t 0), none⟩,
    ⟨(some 4), .move (.c (.bool false)), none⟩])
  (.seq
  (.region [
    ⟨(some 6), .move (.t 1), none⟩,
    ⟨(some 7), .call f_warehousebase_Any [(.t 6)], none⟩,
    ⟨(some 5), .alloc [(.int .i64 0), (.int .i64 0), (.str (bs []))], none⟩,
    ⟨none, .store 3 (.t 5) (.t 7), none⟩])
  (.seq
  (.region [
    ⟨(some 8), .fieldAddr 1 (.t 5), none⟩,
    ⟨(some 9), .load false 1 (.t 8), none⟩,
    ⟨(some 10), .move (.t 1), none⟩,
    ⟨(some 11), .bin .shr (.t 10) (.c (.int .u64 20)), none⟩,
    ⟨(some 12), .bin .and (.t 11) (.c (.int .i64 1)), none⟩,
    ⟨(some 13), .bin .add (.t 9) (.t 12), none⟩,
    ⟨(some 14), .fieldAddr 1 (.t 5), none⟩,
    ⟨none, .store 1 (.t 14) (.t 13), none⟩])
  (.seq
  (.draw [
    (⟨(some 15), .load true 3 (.t 2), none⟩, []),
    (⟨(some 16), .call f_value_Valid [(.t 15)], none⟩, []),
    (⟨(some 17), .load true 3 (.t 2), none⟩, []),
    (⟨(some 18), .call f_warehouseref1_Valid [(.t 17)], none⟩, []),
    (⟨(some 19), .eqb false (.t 16) (.t 18), none⟩, []),
    (⟨(some 20), .move (.t 19), none⟩, []),
    (⟨(some 21), .load true 3 (.t 5), some (some 20, true)⟩, []),
    (⟨(some 22), .call f_value_Valid [(.t 21)], some (some 20, true)⟩, []),
    (⟨(some 23), .load true 3 (.t 5), some (some 20, true)⟩, []),
    (⟨(some 24), .call f_warehouseref1_Valid [(.t 23)], some (some 20, true)⟩, []),
    (⟨(some 25), .eqb false (.t 22) (.t 24), some (some 20, true)⟩, []),
    (⟨(some 26), .pick (.t 20) (.t 25) (.c (.bool false)), none⟩, []),
    (⟨(some 27), .move (.t 26), none⟩, []),
    (⟨(some 28), .call f_warehouselaw1_known [], some (some 27, true)⟩, []),
    (⟨(some 29), .pick (.t 27) (.t 28) (.c (.bool false)), none⟩, []),
    (⟨(some 4), .move (.t 29), none⟩, [])])
  .ret))))⟩

/-- warehouselaw1_ValueValidates, and what it calls. -/
structure F_warehouselaw1_ValueValidates (P : Program) where
  id : FuncId
  warehousebase_Any : F_warehousebase_Any P
  value_Valid : F_value_Valid P
  warehouseref1_Valid : F_warehouseref1_Valid P
  warehouselaw1_known : F_warehouselaw1_known P
  has : Has P id [] (c_warehouselaw1_ValueValidates warehousebase_Any.id value_Valid.id warehouseref1_Valid.id warehouselaw1_known.id)

/-- The code of warehouseref1_numbers. -/
def c_warehouseref1_numbers : AFunc := ⟨13, [.tmp 4],
  (.seq
  (.region [
    ⟨(some 4), .move (.c (.int .i64 0)), none⟩])
  (.seq
  (.block 0
    (.seq
    (.region [
      ⟨(some 6), .move (.t 0), none⟩,
      ⟨(some 7), .move (.t 1), none⟩,
      ⟨(some 8), .bin .lss (.t 6) (.t 7), none⟩,
      ⟨(some 5), .move (.t 8), none⟩])
    (.cond (.t 5)
      (.seq
      (.region [
        ⟨(some 4), .move (.c (.int .i64 (-1))), none⟩])
      .ret)
      (.seq
      (.region [
        ⟨(some 10), .move (.t 0), none⟩,
        ⟨(some 11), .move (.t 1), none⟩,
        ⟨(some 12), .bin .gtr (.t 10) (.t 11), none⟩,
        ⟨(some 9), .move (.t 12), none⟩])
      (.cond (.t 9)
        (.seq
        (.region [
          ⟨(some 4), .move (.c (.int .i64 1)), none⟩])
        .ret)
        .skip)))))
  (.seq
  (.region [
    ⟨(some 4), .move (.c (.int .i64 0)), none⟩])
  .ret)))⟩

/-- warehouseref1_numbers, and what it calls. -/
structure F_warehouseref1_numbers (P : Program) where
  id : FuncId
  has : Has P id [] c_warehouseref1_numbers

/-- The code of warehouseref1_Compare. -/
def c_warehouseref1_Compare (f_warehouseref1_numbers : FuncId) : AFunc := ⟨35, [.tmp 4],
  (.seq
  (.region [
    ⟨(some 2), .box (.t 0), none⟩,
    ⟨(some 3), .box (.t 1), none⟩,
    ⟨(some 4), .move (.c (.int .i64 0)), none⟩])
  (.seq
  (.seq
  (.region [
    ⟨(some 7), .fieldAddr 0 (.t 2), none⟩,
    ⟨(some 8), .load false 1 (.t 7), none⟩,
    ⟨(some 9), .fieldAddr 0 (.t 3), none⟩,
    ⟨(some 10), .load false 1 (.t 9), none⟩,
    ⟨(some 11), .call f_warehouseref1_numbers [(.t 8), (.t 10)], none⟩,
    ⟨(some 5), .move (.t 11), none⟩])
  (.seq
  (.region [
    ⟨(some 12), .move (.t 5), none⟩,
    ⟨(some 13), .bin .neq (.t 12) (.c (.int .i64 0)), none⟩])
  (.cond (.t 13)
    (.seq
    (.region [
      ⟨(some 14), .move (.t 5), none⟩,
      ⟨(some 4), .move (.t 14), none⟩])
    .ret)
    .skip)))
  (.seq
  (.seq
  (.region [
    ⟨(some 15), .fieldAddr 1 (.t 2), none⟩,
    ⟨(some 16), .load false 1 (.t 15), none⟩,
    ⟨(some 17), .fieldAddr 1 (.t 3), none⟩,
    ⟨(some 18), .load false 1 (.t 17), none⟩,
    ⟨(some 19), .call f_warehouseref1_numbers [(.t 16), (.t 18)], none⟩,
    ⟨(some 6), .move (.t 19), none⟩])
  (.seq
  (.region [
    ⟨(some 20), .move (.t 6), none⟩,
    ⟨(some 21), .bin .neq (.t 20) (.c (.int .i64 0)), none⟩])
  (.cond (.t 21)
    (.seq
    (.region [
      ⟨(some 22), .move (.t 6), none⟩,
      ⟨(some 4), .move (.t 22), none⟩])
    .ret)
    .skip)))
  (.seq
  (.block 0
    (.seq
    (.region [
      ⟨(some 24), .fieldAddr 2 (.t 2), none⟩,
      ⟨(some 25), .load false 1 (.t 24), none⟩,
      ⟨(some 26), .fieldAddr 2 (.t 3), none⟩,
      ⟨(some 27), .load false 1 (.t 26), none⟩,
      ⟨(some 28), .bin .lss (.t 25) (.t 27), none⟩,
      ⟨(some 23), .move (.t 28), none⟩])
    (.cond (.t 23)
      (.seq
      (.region [
        ⟨(some 4), .move (.c (.int .i64 (-1))), none⟩])
      .ret)
      (.seq
      (.region [
        ⟨(some 30), .fieldAddr 2 (.t 2), none⟩,
        ⟨(some 31), .load false 1 (.t 30), none⟩,
        ⟨(some 32), .fieldAddr 2 (.t 3), none⟩,
        ⟨(some 33), .load false 1 (.t 32), none⟩,
        ⟨(some 34), .bin .gtr (.t 31) (.t 33), none⟩,
        ⟨(some 29), .move (.t 34), none⟩])
      (.cond (.t 29)
        (.seq
        (.region [
          ⟨(some 4), .move (.c (.int .i64 1)), none⟩])
        .ret)
        .skip)))))
  (.seq
  (.region [
    ⟨(some 4), .move (.c (.int .i64 0)), none⟩])
  .ret)))))⟩

/-- warehouseref1_Compare, and what it calls. -/
structure F_warehouseref1_Compare (P : Program) where
  id : FuncId
  warehouseref1_numbers : F_warehouseref1_numbers P
  has : Has P id [] (c_warehouseref1_Compare warehouseref1_numbers.id)

/-- The code of warehouselaw1_ValueCompares. -/
def c_warehouselaw1_ValueCompares (f_value_Compare : FuncId) (f_warehouseref1_Compare : FuncId) (f_warehouselaw1_known : FuncId) : AFunc := ⟨72, [.tmp 6],
  (.seq
  (.region [
    ⟨(some 3), .box (.t 0), none⟩,
    ⟨(some 4), .box (.t 1), none⟩,
    ⟨(some 5), .box (.t 2), none⟩,
    ⟨(some 6), .move (.c (.bool false)), none⟩])
  (.seq
  (.draw [
    (⟨(some 10), .load true 3 (.t 3), none⟩, []),
    (⟨(some 11), .load true 3 (.t 4), none⟩, []),
    (⟨(some 12), .call f_value_Compare [(.t 10), (.t 11)], none⟩, []),
    (⟨(some 13), .load true 3 (.t 4), none⟩, []),
    (⟨(some 14), .load true 3 (.t 5), none⟩, []),
    (⟨(some 15), .call f_value_Compare [(.t 13), (.t 14)], none⟩, []),
    (⟨(some 16), .load true 3 (.t 3), none⟩, []),
    (⟨(some 17), .load true 3 (.t 5), none⟩, []),
    (⟨(some 18), .call f_value_Compare [(.t 16), (.t 17)], none⟩, []),
    (⟨(some 7), .move (.t 12), none⟩, []),
    (⟨(some 8), .move (.t 15), none⟩, []),
    (⟨(some 9), .move (.t 18), none⟩, [])])
  (.seq
  (.seq
  (.region [
    ⟨(some 19), .move (.t 7), none⟩,
    ⟨(some 20), .load true 3 (.t 3), none⟩,
    ⟨(some 21), .load true 3 (.t 4), none⟩,
    ⟨(some 22), .call f_warehouseref1_Compare [(.t 20), (.t 21)], none⟩,
    ⟨(some 23), .bin .neq (.t 19) (.t 22), none⟩,
    ⟨(some 24), .move (.t 23), none⟩,
    ⟨(some 25), .move (.t 8), some (some 24, false)⟩,
    ⟨(some 26), .load true 3 (.t 4), some (some 24, false)⟩,
    ⟨(some 27), .load true 3 (.t 5), some (some 24, false)⟩,
    ⟨(some 28), .call f_warehouseref1_Compare [(.t 26), (.t 27)], some (some 24, false)⟩,
    ⟨(some 29), .bin .neq (.t 25) (.t 28), some (some 24, false)⟩,
    ⟨(some 30), .pick (.t 24) (.c (.bool true)) (.t 29), none⟩,
    ⟨(some 31), .move (.t 30), none⟩,
    ⟨(some 32), .load true 3 (.t 4), some (some 31, false)⟩,
    ⟨(some 33), .load true 3 (.t 3), some (some 31, false)⟩,
    ⟨(some 34), .call f_value_Compare [(.t 32), (.t 33)], some (some 31, false)⟩,
    ⟨(some 35), .move (.t 7), some (some 31, false)⟩,
    ⟨(some 36), .un .neg (.t 35), some (some 31, false)⟩,
    ⟨(some 37), .bin .neq (.t 34) (.t 36), some (some 31, false)⟩,
    ⟨(some 38), .pick (.t 31) (.c (.bool true)) (.t 37), none⟩,
    ⟨(some 39), .move (.t 38), none⟩,
    ⟨(some 40), .move (.t 7), some (some 39, false)⟩,
    ⟨(some 41), .bin .eql (.t 40) (.c (.int .i64 0)), some (some 39, false)⟩,
    ⟨(some 42), .load true 3 (.t 3), some (some 39, false)⟩,
    ⟨(some 43), .load true 3 (.t 4), some (some 39, false)⟩,
    ⟨(some 44), .eqs false [1, 1, 2] (.t 42) (.t 43), some (some 39, false)⟩,
    ⟨(some 45), .eqb true (.t 41) (.t 44), some (some 39, false)⟩,
    ⟨(some 46), .pick (.t 39) (.c (.bool true)) (.t 45), none⟩])
  (.cond (.t 46)
    (.seq
    (.region [
      ⟨(some 6), .move (.c (.bool false)), none⟩])
    .ret)
    .skip))
  (.seq
  (.region [
    ⟨(some 47), .move (.t 7), none⟩,
    ⟨(some 48), .bin .gtr (.t 47) (.c (.int .i64 0)), none⟩,
    ⟨(some 49), .move (.t 48), none⟩,
    ⟨(some 50), .move (.t 8), some (some 49, false)⟩,
    ⟨(some 51), .bin .gtr (.t 50) (.c (.int .i64 0)), some (some 49, false)⟩,
    ⟨(some 52), .pick (.t 49) (.c (.bool true)) (.t 51), none⟩,
    ⟨(some 53), .move (.t 52), none⟩,
    ⟨(some 54), .move (.t 9), some (some 53, false)⟩,
    ⟨(some 55), .bin .leq (.t 54) (.c (.int .i64 0)), some (some 53, false)⟩,
    ⟨(some 56), .pick (.t 53) (.c (.bool true)) (.t 55), none⟩,
    ⟨(some 57), .move (.t 56), none⟩,
    ⟨(some 58), .move (.t 7), some (some 57, true)⟩,
    ⟨(some 59), .bin .geq (.t 58) (.c (.int .i64 0)), some (some 57, true)⟩,
    ⟨(some 60), .move (.t 59), some (some 57, true)⟩,
    ⟨(some 61), .move (.t 8), some (some 60, false)⟩,
    ⟨(some 62), .bin .gtr (.t 61) (.c (.int .i64 0)), some (some 60, false)⟩,
    ⟨(some 63), .pick (.t 60) (.c (.bool true)) (.t 62), some (some 57, true)⟩,
    ⟨(some 64), .move (.t 63), some (some 57, true)⟩,
    ⟨(some 65), .move (.t 9), some (some 64, false)⟩,
    ⟨(some 66), .bin .lss (.t 65) (.c (.int .i64 0)), some (some 64, false)⟩,
    ⟨(some 67), .pick (.t 64) (.c (.bool true)) (.t 66), some (some 57, true)⟩,
    ⟨(some 68), .pick (.t 57) (.t 67) (.c (.bool false)), none⟩,
    ⟨(some 69), .move (.t 68), none⟩,
    ⟨(some 70), .call f_warehouselaw1_known [], some (some 69, true)⟩,
    ⟨(some 71), .pick (.t 69) (.t 70) (.c (.bool false)), none⟩,
    ⟨(some 6), .move (.t 71), none⟩])
  .ret))))⟩

/-- warehouselaw1_ValueCompares, and what it calls. -/
structure F_warehouselaw1_ValueCompares (P : Program) where
  id : FuncId
  value_Compare : F_value_Compare P
  warehouseref1_Compare : F_warehouseref1_Compare P
  warehouselaw1_known : F_warehouselaw1_known P
  has : Has P id [] (c_warehouselaw1_ValueCompares value_Compare.id warehouseref1_Compare.id warehouselaw1_known.id)

/-- The code of warehouseref1_Truth. -/
def c_warehouseref1_Truth : AFunc := ⟨23, [.tmp 2],
  (.seq
  (.region [
    ⟨(some 1), .box (.t 0), none⟩,
    ⟨(some 2), .move (.c (.int .i64 0)), none⟩])
  (.seq
  (.seq
  (.region [
    ⟨(some 3), .fieldAddr 0 (.t 1), none⟩,
    ⟨(some 4), .load false 1 (.t 3), none⟩,
    ⟨(some 5), .bin .neq (.t 4) (.c (.int .i64 1)), none⟩,
    ⟨(some 6), .move (.t 5), none⟩,
    ⟨(some 7), .fieldAddr 2 (.t 1), some (some 6, false)⟩,
    ⟨(some 8), .load false 1 (.t 7), some (some 6, false)⟩,
    ⟨(some 9), .bin .neq (.t 8) (.c (.str (bs []))), some (some 6, false)⟩,
    ⟨(some 10), .pick (.t 6) (.c (.bool true)) (.t 9), none⟩,
    ⟨(some 11), .move (.t 10), none⟩,
    ⟨(some 12), .fieldAddr 1 (.t 1), some (some 11, false)⟩,
    ⟨(some 13), .load false 1 (.t 12), some (some 11, false)⟩,
    ⟨(some 14), .bin .neq (.t 13) (.c (.int .i64 0)), some (some 11, false)⟩,
    ⟨(some 15), .move (.t 14), some (some 11, false)⟩,
    ⟨(some 16), .fieldAddr 1 (.t 1), some (some 15, true)⟩,
    ⟨(some 17), .load false 1 (.t 16), some (some 15, true)⟩,
    ⟨(some 18), .bin .neq (.t 17) (.c (.int .i64 1)), some (some 15, true)⟩,
    ⟨(some 19), .pick (.t 15) (.t 18) (.c (.bool false)), some (some 11, false)⟩,
    ⟨(some 20), .pick (.t 11) (.c (.bool true)) (.t 19), none⟩])
  (.cond (.t 20)
    (.seq
    (.region [
      ⟨(some 2), .move (.c (.int .i64 (-1))), none⟩])
    .ret)
    .skip))
  (.seq
  (.region [
    ⟨(some 21), .fieldAddr 1 (.t 1), none⟩,
    ⟨(some 22), .load false 1 (.t 21), none⟩,
    ⟨(some 2), .move (.t 22), none⟩])
  .ret)))⟩

/-- warehouseref1_Truth, and what it calls. -/
structure F_warehouseref1_Truth (P : Program) where
  id : FuncId
  has : Has P id [] c_warehouseref1_Truth

/-- The code of warehouselaw1_ValueTruths. -/
def c_warehouselaw1_ValueTruths (f_value_Truth : FuncId) (f_warehouseref1_Truth : FuncId) (f_warehouselaw1_known : FuncId) : AFunc := ⟨23, [.tmp 4],
  (.seq
  (.region [
    ⟨(some 2), .box (.t 0), none⟩,
    ⟨(some 4), .move (.c (.bool false)), none⟩])
  (.seq
  (.region [
    ⟨(some 6), .move (.t 1), none⟩,
    ⟨(some 7), .build [(.int .i64 0), (.int .i64 0), (.str (bs []))] [(0, 1, (.c (.int .i64 1))), (1, 1, (.t 6))], none⟩,
    ⟨(some 5), .alloc [(.int .i64 0), (.int .i64 0), (.str (bs []))], none⟩,
    ⟨none, .store 3 (.t 5) (.t 7), none⟩])
  (.seq
  (.draw [
    (⟨(some 8), .load true 3 (.t 2), none⟩, []),
    (⟨(some 9), .call f_value_Truth [(.t 8)], none⟩, []),
    (⟨(some 10), .load true 3 (.t 2), none⟩, []),
    (⟨(some 11), .call f_warehouseref1_Truth [(.t 10)], none⟩, []),
    (⟨(some 12), .bin .eql (.t 9) (.t 11), none⟩, []),
    (⟨(some 13), .move (.t 12), none⟩, []),
    (⟨(some 14), .load true 3 (.t 5), some (some 13, true)⟩, []),
    (⟨(some 15), .call f_value_Truth [(.t 14)], some (some 13, true)⟩, []),
    (⟨(some 16), .load true 3 (.t 5), some (some 13, true)⟩, []),
    (⟨(some 17), .call f_warehouseref1_Truth [(.t 16)], some (some 13, true)⟩, []),
    (⟨(some 18), .bin .eql (.t 15) (.t 17), some (some 13, true)⟩, []),
    (⟨(some 19), .pick (.t 13) (.t 18) (.c (.bool false)), none⟩, []),
    (⟨(some 20), .move (.t 19), none⟩, []),
    (⟨(some 21), .call f_warehouselaw1_known [], some (some 20, true)⟩, []),
    (⟨(some 22), .pick (.t 20) (.t 21) (.c (.bool false)), none⟩, []),
    (⟨(some 4), .move (.t 22), none⟩, [])])
  .ret)))⟩

/-- warehouselaw1_ValueTruths, and what it calls. -/
structure F_warehouselaw1_ValueTruths (P : Program) where
  id : FuncId
  value_Truth : F_value_Truth P
  warehouseref1_Truth : F_warehouseref1_Truth P
  warehouselaw1_known : F_warehouselaw1_known P
  has : Has P id [] (c_warehouselaw1_ValueTruths value_Truth.id warehouseref1_Truth.id warehouselaw1_known.id)

/-- The code of warehouseref1_four. -/
def c_warehouseref1_four : AFunc := ⟨15, [.tmp 2],
  (.seq
  (.region [
    ⟨(some 2), .move (.c .nil), none⟩])
  (.seq
  (.region [
    ⟨(some 3), .move (.t 0), none⟩,
    ⟨(some 4), .bin .shr (.t 3) (.c (.int .u64 24)), none⟩,
    ⟨(some 5), .conv .u8 (.t 4), none⟩,
    ⟨(some 6), .move (.t 0), none⟩,
    ⟨(some 7), .bin .shr (.t 6) (.c (.int .u64 16)), none⟩,
    ⟨(some 8), .conv .u8 (.t 7), none⟩,
    ⟨(some 9), .move (.t 0), none⟩,
    ⟨(some 10), .bin .shr (.t 9) (.c (.int .u64 8)), none⟩,
    ⟨(some 11), .conv .u8 (.t 10), none⟩,
    ⟨(some 12), .move (.t 0), none⟩,
    ⟨(some 13), .conv .u8 (.t 12), none⟩,
    ⟨(some 14), .buildSlice 1 4 [(.int .u8 0)] [(0, (.t 5)), (1, (.t 8)), (2, (.t 11)), (3, (.t 13))], none⟩,
    ⟨(some 2), .move (.t 14), none⟩])
  .ret))⟩

/-- warehouseref1_four, and what it calls. -/
structure F_warehouseref1_four (P : Program) where
  id : FuncId
  has : Has P id [] c_warehouseref1_four

/-- The code of warehouseref1_Encode. -/
def c_warehouseref1_Encode (f_warehouseref1_Valid : FuncId) (f_warehouseref1_four : FuncId) : AFunc := ⟨71, [.tmp 2, .tmp 3],
  (.seq
  (.region [
    ⟨(some 2), .move (.c .nil), none⟩,
    ⟨(some 3), .move (.c (.int .i64 0)), none⟩])
  (.seq
  (.seq
  (.region [
    ⟨(some 7), .move (.t 0), none⟩,
    ⟨(some 8), .len (.t 7), none⟩,
    ⟨(some 9), .bin .gtr (.t 8) (.c (.int .i64 12)), none⟩])
  (.cond (.t 9)
    (.seq
    (.region [
      ⟨(some 2), .move (.c .nil), none⟩,
      ⟨(some 3), .move (.c (.int .i64 2)), none⟩])
    .ret)
    .skip))
  (.seq
  (.region [
    ⟨(some 10), .move (.t 0), none⟩,
    ⟨(some 11), .len (.t 10), none⟩,
    ⟨(some 12), .conv .u8 (.t 11), none⟩,
    ⟨(some 13), .buildSliceO 1 1 [(.int .u8 0)] [(0, (.t 12))], none⟩,
    ⟨(some 4), .move (.t 13), none⟩])
  (.seq
  (.seq
  (.region [
    ⟨(some 5), .move (.c (.int .i64 0)), none⟩])
  (.block 0
    (.loop
      (.seq
      (.seq
      (.region [
        ⟨(some 14), .move (.t 5), none⟩,
        ⟨(some 15), .move (.t 0), none⟩,
        ⟨(some 16), .len (.t 15), none⟩,
        ⟨(some 17), .bin .lss (.t 14) (.t 16), none⟩])
      (.cond (.t 17)
        .skip
        (.exit 0)))
      (.seq
      (.block 1
        (.seq
        (.region [
          ⟨(some 20), .move (.t 0), none⟩,
          ⟨(some 21), .move (.t 5), none⟩,
          ⟨(some 22), .indexAddr 3 (.t 20) (.t 21), none⟩,
          ⟨(some 23), .load true 3 (.t 22), none⟩,
          ⟨(some 6), .alloc [(.int .i64 0), (.int .i64 0), (.str (bs []))], none⟩,
          ⟨none, .store 3 (.t 6) (.t 23), none⟩])
        (.seq
        (.seq
        (.region [
          ⟨(some 24), .load true 3 (.t 6), none⟩,
          ⟨(some 25), .call f_warehouseref1_Valid [(.t 24)], none⟩,
          ⟨(some 26), .un .not (.t 25), none⟩])
        (.cond (.t 26)
          (.seq
          (.region [
            ⟨(some 2), .move (.c .nil), none⟩,
            ⟨(some 3), .move (.c (.int .i64 8)), none⟩])
          .ret)
          .skip))
        (.seq
        (.region [
          ⟨(some 27), .move (.t 4), none⟩,
          ⟨(some 28), .fieldAddr 0 (.t 6), none⟩,
          ⟨(some 29), .load false 1 (.t 28), none⟩,
          ⟨(some 30), .conv .u8 (.t 29), none⟩,
          ⟨(some 31), .buildSlice 1 1 [(.int .u8 0)] [(0, (.t 30))], none⟩,
          ⟨(some 32), .append 1 1 [(.int .u8 0)] (.t 27) (.t 31), none⟩,
          ⟨(some 4), .move (.t 32), none⟩])
        (.seq
        (.region [
          ⟨(some 33), .fieldAddr 0 (.t 6), none⟩,
          ⟨(some 34), .load false 1 (.t 33), none⟩])
        (.block 2
          (.seq
          (.region [
            ⟨(some 36), .bin .eql (.t 34) (.c (.int .i64 1)), none⟩,
            ⟨(some 35), .move (.t 36), none⟩])
          (.cond (.t 35)
            (.region [
              ⟨(some 37), .move (.t 4), none⟩,
              ⟨(some 38), .fieldAddr 1 (.t 6), none⟩,
              ⟨(some 39), .load false 1 (.t 38), none⟩,
              ⟨(some 40), .conv .u8 (.t 39), none⟩,
              ⟨(some 41), .buildSlice 1 1 [(.int .u8 0)] [(0, (.t 40))], none⟩,
              ⟨(some 42), .append 1 1 [(.int .u8 0)] (.t 37) (.t 41), none⟩,
              ⟨(some 4), .move (.t 42), none⟩])
            (.seq
            (.region [
              ⟨(some 44), .bin .eql (.t 34) (.c (.int .i64 2)), none⟩,
              ⟨(some 43), .move (.t 44), none⟩])
            (.cond (.t 43)
              (.region [
                ⟨(some 45), .move (.t 4), none⟩,
                ⟨(some 46), .fieldAddr 1 (.t 6), none⟩,
                ⟨(some 47), .load false 1 (.t 46), none⟩,
                ⟨(some 48), .bin .add (.t 47) (.c (.int .i64 1073741824)), none⟩,
                ⟨(some 49), .call f_warehouseref1_four [(.t 48)], none⟩,
                ⟨(some 50), .append 1 1 [(.int .u8 0)] (.t 45) (.t 49), none⟩,
                ⟨(some 4), .move (.t 50), none⟩])
              (.seq
              (.region [
                ⟨(some 52), .bin .eql (.t 34) (.c (.int .i64 3)), none⟩,
                ⟨(some 51), .move (.t 52), none⟩])
              (.cond (.t 51)
                (.draw [
                  (⟨(some 53), .move (.t 4), none⟩, []),
                  (⟨(some 54), .fieldAddr 2 (.t 6), none⟩, []),
                  (⟨(some 55), .load false 1 (.t 54), none⟩, []),
                  (⟨(some 56), .lenS (.t 55), none⟩, []),
                  (⟨(some 57), .conv .u8 (.t 56), none⟩, []),
                  (⟨(some 58), .buildSlice 1 1 [(.int .u8 0)] [(0, (.t 57))], none⟩, []),
                  (⟨(some 59), .append 1 1 [(.int .u8 0)] (.t 53) (.t 58), none⟩, []),
                  (⟨(some 60), .fieldAddr 2 (.t 6), none⟩, []),
                  (⟨(some 61), .load false 1 (.t 60), none⟩, [11]),
                  (⟨(some 62), .append 1 1 [(.int .u8 0)] (.t 59) (.t 61), none⟩, []),
                  (⟨(some 4), .move (.t 62), none⟩, [])])
                (.seq
                (.region [
                  ⟨(some 64), .bin .eql (.t 34) (.c (.int .i64 4)), none⟩,
                  ⟨(some 63), .move (.t 64), none⟩])
                (.cond (.t 63)
                  (.region [
                    ⟨(some 65), .move (.t 4), none⟩,
                    ⟨(some 66), .fieldAddr 1 (.t 6), none⟩,
                    ⟨(some 67), .load false 1 (.t 66), none⟩,
                    ⟨(some 68), .call f_warehouseref1_four [(.t 67)], none⟩,
                    ⟨(some 69), .append 1 1 [(.int .u8 0)] (.t 65) (.t 68), none⟩,
                    ⟨(some 4), .move (.t 69), none⟩])
                  .skip))))))))))))))
      (.region [
        ⟨(some 18), .move (.t 5), none⟩,
        ⟨(some 19), .bin .add (.t 18) (.c (.int .i64 1)), none⟩,
        ⟨(some 5), .move (.t 19), none⟩]))))))
  (.seq
  (.region [
    ⟨(some 70), .move (.t 4), none⟩,
    ⟨(some 2), .move (.t 70), none⟩,
    ⟨(some 3), .move (.c (.int .i64 0)), none⟩])
  .ret)))))⟩

/-- warehouseref1_Encode, and what it calls. -/
structure F_warehouseref1_Encode (P : Program) where
  id : FuncId
  warehouseref1_Valid : F_warehouseref1_Valid P
  warehouseref1_four : F_warehouseref1_four P
  has : Has P id [13] (c_warehouseref1_Encode warehouseref1_Valid.id warehouseref1_four.id)

/-- The code of warehousebase_At. -/
def c_warehousebase_At : AFunc := ⟨24, [.tmp 4],
  (.seq
  (.region [
    ⟨(some 4), .move (.c (.int .i64 0)), none⟩])
  (.seq
  (.region [
    ⟨(some 5), .move (.t 1), none⟩,
    ⟨(some 6), .bin .and (.t 5) (.c (.int .i64 65535)), none⟩,
    ⟨(some 1), .move (.t 6), none⟩])
  (.seq
  (.seq
  (.region [
    ⟨(some 7), .move (.t 0), none⟩,
    ⟨(some 8), .len (.t 7), none⟩,
    ⟨(some 9), .bin .eql (.t 8) (.c (.int .i64 0)), none⟩])
  (.cond (.t 9)
    (.seq
    (.region [
      ⟨(some 10), .move (.t 1), none⟩,
      ⟨(some 4), .move (.t 10), none⟩])
    .ret)
    .skip))
  (.seq
  (.draw [
    (⟨(some 11), .move (.t 0), none⟩, []),
    (⟨(some 12), .move (.t 1), none⟩, []),
    (⟨(some 13), .move (.t 0), none⟩, []),
    (⟨(some 14), .len (.t 13), none⟩, []),
    (⟨(some 15), .bin .rem (.t 12) (.t 14), none⟩, []),
    (⟨(some 16), .indexAddr 1 (.t 11) (.t 15), none⟩, []),
    (⟨(some 17), .load false 1 (.t 16), none⟩, []),
    (⟨(some 18), .bin .and (.t 17) (.c (.int .i64 65535)), none⟩, []),
    (⟨(some 19), .move (.t 1), none⟩, []),
    (⟨(some 20), .move (.t 0), none⟩, []),
    (⟨(some 21), .len (.t 20), none⟩, []),
    (⟨(some 22), .bin .quo (.t 19) (.t 21), none⟩, []),
    (⟨(some 23), .bin .add (.t 18) (.t 22), none⟩, []),
    (⟨(some 4), .move (.t 23), none⟩, [])])
  .ret))))⟩

/-- warehousebase_At, and what it calls. -/
structure F_warehousebase_At (P : Program) where
  id : FuncId
  has : Has P id [] c_warehousebase_At

/-- The code of warehouselaw1_row. -/
def c_warehouselaw1_row (f_warehousebase_At : FuncId) (f_warehousebase_Any : FuncId) : AFunc := ⟨20, [.tmp 4],
  (.seq
  (.region [
    ⟨(some 4), .move (.c .nil), none⟩])
  (.seq
  (.region [
    ⟨(some 5), .move (.c .nil), none⟩])
  (.seq
  (.seq
  (.region [
    ⟨(some 6), .move (.c (.int .i64 0)), none⟩])
  (.block 0
    (.loop
      (.seq
      (.seq
      (.region [
        ⟨(some 7), .move (.t 6), none⟩,
        ⟨(some 8), .move (.t 1), none⟩,
        ⟨(some 9), .bin .lss (.t 7) (.t 8), none⟩])
      (.cond (.t 9)
        .skip
        (.exit 0)))
      (.seq
      (.block 1
        (.region [
          ⟨(some 12), .move (.t 5), none⟩,
          ⟨(some 13), .move (.t 0), none⟩,
          ⟨(some 14), .move (.t 6), none⟩,
          ⟨(some 15), .call f_warehousebase_At [(.t 13), (.t 14)], none⟩,
          ⟨(some 16), .call f_warehousebase_Any [(.t 15)], none⟩,
          ⟨(some 17), .buildSlice 3 1 [(.int .i64 0), (.int .i64 0), (.str (bs []))] [(0, (.t 16))], none⟩,
          ⟨(some 18), .append 3 32 [(.int .i64 0), (.int .i64 0), (.str (bs []))] (.t 12) (.t 17), none⟩,
          ⟨(some 5), .move (.t 18), none⟩]))
      (.region [
        ⟨(some 10), .move (.t 6), none⟩,
        ⟨(some 11), .bin .add (.t 10) (.c (.int .i64 1)), none⟩,
        ⟨(some 6), .move (.t 11), none⟩]))))))
  (.seq
  (.region [
    ⟨(some 19), .move (.t 5), none⟩,
    ⟨(some 4), .move (.t 19), none⟩])
  .ret))))⟩

/-- warehouselaw1_row, and what it calls. -/
structure F_warehouselaw1_row (P : Program) where
  id : FuncId
  warehousebase_At : F_warehousebase_At P
  warehousebase_Any : F_warehousebase_Any P
  has : Has P id [] (c_warehouselaw1_row warehousebase_At.id warehousebase_Any.id)

/-- The code of warehouselaw1_ValueEncodes. -/
def c_warehouselaw1_ValueEncodes (f_warehouselaw1_known : FuncId) (f_value_Encode : FuncId) (f_warehouseref1_Encode : FuncId) (f_warehouselaw1_row : FuncId) : AFunc := ⟨70, [.tmp 6],
  (.seq
  (.region [
    ⟨(some 6), .move (.c (.bool false)), none⟩])
  (.seq
  (.seq
  (.region [
    ⟨(some 15), .move (.t 0), none⟩,
    ⟨(some 16), .len (.t 15), none⟩,
    ⟨(some 17), .bin .gtr (.t 16) (.c (.int .i64 100)), none⟩])
  (.cond (.t 17)
    (.seq
    (.region [
      ⟨(some 18), .call f_warehouselaw1_known [], none⟩,
      ⟨(some 6), .move (.t 18), none⟩])
    .ret)
    .skip))
  (.seq
  (.region [
    ⟨(some 20), .move (.t 0), none⟩,
    ⟨(some 21), .call f_value_Encode [(.t 20)], none⟩,
    ⟨(some 19), .move (.t 21), none⟩,
    ⟨(some 22), .extract (.t 19) 0, none⟩,
    ⟨(some 23), .extract (.t 19) 1, none⟩,
    ⟨(some 7), .move (.t 22), none⟩,
    ⟨(some 8), .move (.t 23), none⟩])
  (.seq
  (.region [
    ⟨(some 25), .move (.t 0), none⟩,
    ⟨(some 26), .call f_warehouseref1_Encode [(.t 25)], none⟩,
    ⟨(some 24), .move (.t 26), none⟩,
    ⟨(some 27), .extract (.t 24) 0, none⟩,
    ⟨(some 28), .extract (.t 24) 1, none⟩,
    ⟨(some 9), .move (.t 27), none⟩,
    ⟨(some 10), .move (.t 28), none⟩])
  (.seq
  (.region [
    ⟨(some 30), .move (.t 1), none⟩,
    ⟨(some 31), .move (.t 2), none⟩,
    ⟨(some 32), .bin .and (.t 31) (.c (.int .i64 15)), none⟩,
    ⟨(some 33), .call f_warehouselaw1_row [(.t 30), (.t 32)], none⟩,
    ⟨(some 34), .call f_value_Encode [(.t 33)], none⟩,
    ⟨(some 29), .move (.t 34), none⟩,
    ⟨(some 35), .extract (.t 29) 0, none⟩,
    ⟨(some 36), .extract (.t 29) 1, none⟩,
    ⟨(some 11), .move (.t 35), none⟩,
    ⟨(some 12), .move (.t 36), none⟩])
  (.seq
  (.region [
    ⟨(some 38), .move (.t 1), none⟩,
    ⟨(some 39), .move (.t 2), none⟩,
    ⟨(some 40), .bin .and (.t 39) (.c (.int .i64 15)), none⟩,
    ⟨(some 41), .call f_warehouselaw1_row [(.t 38), (.t 40)], none⟩,
    ⟨(some 42), .call f_warehouseref1_Encode [(.t 41)], none⟩,
    ⟨(some 37), .move (.t 42), none⟩,
    ⟨(some 43), .extract (.t 37) 0, none⟩,
    ⟨(some 44), .extract (.t 37) 1, none⟩,
    ⟨(some 13), .move (.t 43), none⟩,
    ⟨(some 14), .move (.t 44), none⟩])
  (.seq
  (.region [
    ⟨(some 45), .move (.t 8), none⟩,
    ⟨(some 46), .move (.t 10), none⟩,
    ⟨(some 47), .bin .eql (.t 45) (.t 46), none⟩,
    ⟨(some 48), .move (.t 47), none⟩,
    ⟨(some 49), .move (.t 7), some (some 48, true)⟩,
    ⟨(some 50), .convBS (.t 49), some (some 48, true)⟩,
    ⟨(some 51), .move (.t 9), some (some 48, true)⟩,
    ⟨(some 52), .convBS (.t 51), some (some 48, true)⟩,
    ⟨(some 53), .bin .eql (.t 50) (.t 52), some (some 48, true)⟩,
    ⟨(some 54), .pick (.t 48) (.t 53) (.c (.bool false)), none⟩,
    ⟨(some 55), .move (.t 54), none⟩,
    ⟨(some 56), .move (.t 12), some (some 55, true)⟩,
    ⟨(some 57), .move (.t 14), some (some 55, true)⟩,
    ⟨(some 58), .bin .eql (.t 56) (.t 57), some (some 55, true)⟩,
    ⟨(some 59), .pick (.t 55) (.t 58) (.c (.bool false)), none⟩,
    ⟨(some 60), .move (.t 59), none⟩,
    ⟨(some 61), .move (.t 11), some (some 60, true)⟩,
    ⟨(some 62), .convBS (.t 61), some (some 60, true)⟩,
    ⟨(some 63), .move (.t 13), some (some 60, true)⟩,
    ⟨(some 64), .convBS (.t 63), some (some 60, true)⟩,
    ⟨(some 65), .bin .eql (.t 62) (.t 64), some (some 60, true)⟩,
    ⟨(some 66), .pick (.t 60) (.t 65) (.c (.bool false)), none⟩,
    ⟨(some 67), .move (.t 66), none⟩,
    ⟨(some 68), .call f_warehouselaw1_known [], some (some 67, true)⟩,
    ⟨(some 69), .pick (.t 67) (.t 68) (.c (.bool false)), none⟩,
    ⟨(some 6), .move (.t 69), none⟩])
  .ret)))))))⟩

/-- warehouselaw1_ValueEncodes, and what it calls. -/
structure F_warehouselaw1_ValueEncodes (P : Program) where
  id : FuncId
  warehouselaw1_known : F_warehouselaw1_known P
  value_Encode : F_value_Encode P
  warehouseref1_Encode : F_warehouseref1_Encode P
  warehouselaw1_row : F_warehouselaw1_row P
  has : Has P id [] (c_warehouselaw1_ValueEncodes warehouselaw1_known.id value_Encode.id warehouseref1_Encode.id warehouselaw1_row.id)

/-- The code of slices_CompareFunc_LValue_Value. -/
def c_slices_CompareFunc_LValue_Value : AFunc := ⟨39, [.tmp 6],
  (.seq
  (.region [
    ⟨(some 6), .move (.c (.int .i64 0)), none⟩])
  (.seq
  (.seq
  (.region [
    ⟨(some 11), .move (.t 0), none⟩,
    ⟨(some 12), .len (.t 11), none⟩,
    ⟨(some 13), .move (.c (.int .i64 0)), none⟩])
  (.block 0
    (.loop
      (.seq
      (.region [
        ⟨(some 14), .bin .lss (.t 13) (.t 12), none⟩])
      (.seq
      (.cond (.t 14)
        .skip
        (.exit 0))
      (.seq
      (.block 1
        (.seq
        (.region [
          ⟨(some 15), .move (.t 13), none⟩,
          ⟨(some 16), .indexAddr 3 (.t 11) (.t 13), none⟩,
          ⟨(some 17), .load true 3 (.t 16), none⟩,
          ⟨(some 8), .alloc [(.int .i64 0), (.int .i64 0), (.str (bs []))], none⟩,
          ⟨(some 7), .move (.t 15), none⟩,
          ⟨none, .store 3 (.t 8) (.t 17), none⟩])
        (.seq
        (.seq
        (.region [
          ⟨(some 18), .move (.t 7), none⟩,
          ⟨(some 19), .move (.t 1), none⟩,
          ⟨(some 20), .len (.t 19), none⟩,
          ⟨(some 21), .bin .geq (.t 18) (.t 20), none⟩])
        (.cond (.t 21)
          (.seq
          (.region [
            ⟨(some 6), .move (.c (.int .i64 1)), none⟩])
          .ret)
          .skip))
        (.seq
        (.region [
          ⟨(some 22), .move (.t 1), none⟩,
          ⟨(some 23), .move (.t 7), none⟩,
          ⟨(some 24), .indexAddr 3 (.t 22) (.t 23), none⟩,
          ⟨(some 25), .load true 3 (.t 24), none⟩,
          ⟨(some 9), .alloc [(.int .i64 0), (.int .i64 0), (.str (bs []))], none⟩,
          ⟨none, .store 3 (.t 9) (.t 25), none⟩])
        (.seq
        (.region [
          ⟨(some 26), .move (.t 2), none⟩,
          ⟨(some 27), .load true 3 (.t 8), none⟩,
          ⟨(some 28), .load true 3 (.t 9), none⟩,
          ⟨(some 29), .callv (.t 26) [(.t 27), (.t 28)], none⟩,
          ⟨(some 10), .move (.t 29), none⟩])
        (.seq
        (.region [
          ⟨(some 30), .move (.t 10), none⟩,
          ⟨(some 31), .bin .neq (.t 30) (.c (.int .i64 0)), none⟩])
        (.cond (.t 31)
          (.seq
          (.region [
            ⟨(some 32), .move (.t 10), none⟩,
            ⟨(some 6), .move (.t 32), none⟩])
          .ret)
          .skip)))))))
      (.region [
        ⟨(some 33), .bin .add (.t 13) (.c (.int .i64 1)), none⟩,
        ⟨(some 13), .move (.t 33), none⟩])))))))
  (.seq
  (.seq
  (.region [
    ⟨(some 34), .move (.t 0), none⟩,
    ⟨(some 35), .len (.t 34), none⟩,
    ⟨(some 36), .move (.t 1), none⟩,
    ⟨(some 37), .len (.t 36), none⟩,
    ⟨(some 38), .bin .lss (.t 35) (.t 37), none⟩])
  (.cond (.t 38)
    (.seq
    (.region [
      ⟨(some 6), .move (.c (.int .i64 (-1))), none⟩])
    .ret)
    .skip))
  (.seq
  (.region [
    ⟨(some 6), .move (.c (.int .i64 0)), none⟩])
  .ret))))⟩

/-- slices_CompareFunc_LValue_Value, and what it calls. -/
structure F_slices_CompareFunc_LValue_Value (P : Program) where
  id : FuncId
  has : Has P id [] c_slices_CompareFunc_LValue_Value

/-- The code of value_CompareRows. -/
def c_value_CompareRows (f_slices_CompareFunc_LValue_Value : FuncId) (f_value_Compare : FuncId) : AFunc := ⟨8, [.tmp 4],
  (.seq
  (.region [
    ⟨(some 4), .move (.c (.int .i64 0)), none⟩])
  (.seq
  (.region [
    ⟨(some 5), .move (.t 0), none⟩,
    ⟨(some 6), .move (.t 1), none⟩,
    ⟨(some 7), .call f_slices_CompareFunc_LValue_Value [(.t 5), (.t 6), (.c (.fn f_value_Compare []))], none⟩,
    ⟨(some 4), .move (.t 7), none⟩])
  .ret))⟩

/-- value_CompareRows, and what it calls. -/
structure F_value_CompareRows (P : Program) where
  id : FuncId
  slices_CompareFunc_LValue_Value : F_slices_CompareFunc_LValue_Value P
  value_Compare : F_value_Compare P
  has : Has P id [] (c_value_CompareRows slices_CompareFunc_LValue_Value.id value_Compare.id)

/-- The code of warehouseref1_CompareRows. -/
def c_warehouseref1_CompareRows (f_warehouseref1_Compare : FuncId) (f_warehouseref1_numbers : FuncId) : AFunc := ⟨36, [.tmp 4],
  (.seq
  (.region [
    ⟨(some 4), .move (.c (.int .i64 0)), none⟩])
  (.seq
  (.seq
  (.region [
    ⟨(some 5), .move (.c (.int .i64 0)), none⟩])
  (.block 0
    (.loop
      (.seq
      (.seq
      (.region [
        ⟨(some 7), .move (.t 5), none⟩,
        ⟨(some 8), .move (.t 0), none⟩,
        ⟨(some 9), .len (.t 8), none⟩,
        ⟨(some 10), .bin .lss (.t 7) (.t 9), none⟩,
        ⟨(some 11), .move (.t 10), none⟩,
        ⟨(some 12), .move (.t 5), some (some 11, true)⟩,
        ⟨(some 13), .move (.t 1), some (some 11, true)⟩,
        ⟨(some 14), .len (.t 13), some (some 11, true)⟩,
        ⟨(some 15), .bin .lss (.t 12) (.t 14), some (some 11, true)⟩,
        ⟨(some 16), .pick (.t 11) (.t 15) (.c (.bool false)), none⟩])
      (.cond (.t 16)
        .skip
        (.exit 0)))
      (.seq
      (.block 1
        (.seq
        (.draw [
          (⟨(some 19), .move (.t 0), none⟩, []),
          (⟨(some 20), .move (.t 5), none⟩, []),
          (⟨(some 21), .indexAddr 3 (.t 19) (.t 20), none⟩, []),
          (⟨(some 22), .load true 3 (.t 21), none⟩, []),
          (⟨(some 23), .move (.t 1), none⟩, []),
          (⟨(some 24), .move (.t 5), none⟩, []),
          (⟨(some 25), .indexAddr 3 (.t 23) (.t 24), none⟩, []),
          (⟨(some 26), .load true 3 (.t 25), none⟩, []),
          (⟨(some 27), .call f_warehouseref1_Compare [(.t 22), (.t 26)], none⟩, []),
          (⟨(some 6), .move (.t 27), none⟩, [])])
        (.seq
        (.region [
          ⟨(some 28), .move (.t 6), none⟩,
          ⟨(some 29), .bin .neq (.t 28) (.c (.int .i64 0)), none⟩])
        (.cond (.t 29)
          (.seq
          (.region [
            ⟨(some 30), .move (.t 6), none⟩,
            ⟨(some 4), .move (.t 30), none⟩])
          .ret)
          .skip))))
      (.region [
        ⟨(some 17), .move (.t 5), none⟩,
        ⟨(some 18), .bin .add (.t 17) (.c (.int .i64 1)), none⟩,
        ⟨(some 5), .move (.t 18), none⟩]))))))
  (.seq
  (.region [
    ⟨(some 31), .move (.t 0), none⟩,
    ⟨(some 32), .len (.t 31), none⟩,
    ⟨(some 33), .move (.t 1), none⟩,
    ⟨(some 34), .len (.t 33), none⟩,
    ⟨(some 35), .call f_warehouseref1_numbers [(.t 32), (.t 34)], none⟩,
    ⟨(some 4), .move (.t 35), none⟩])
  .ret)))⟩

/-- warehouseref1_CompareRows, and what it calls. -/
structure F_warehouseref1_CompareRows (P : Program) where
  id : FuncId
  warehouseref1_Compare : F_warehouseref1_Compare P
  warehouseref1_numbers : F_warehouseref1_numbers P
  has : Has P id [] (c_warehouseref1_CompareRows warehouseref1_Compare.id warehouseref1_numbers.id)

/-- The code of warehouselaw1_ValueOrders. -/
def c_warehouselaw1_ValueOrders (f_warehouselaw1_known : FuncId) (f_warehousebase_At : FuncId) (f_warehousebase_Any : FuncId) (f_value_CompareRows : FuncId) (f_warehouseref1_CompareRows : FuncId) : AFunc := ⟨87, [.tmp 8],
  (.seq
  (.region [
    ⟨(some 8), .move (.c (.bool false)), none⟩])
  (.seq
  (.seq
  (.region [
    ⟨(some 13), .move (.t 0), none⟩,
    ⟨(some 14), .len (.t 13), none⟩,
    ⟨(some 15), .bin .gtr (.t 14) (.c (.int .i64 100)), none⟩,
    ⟨(some 16), .move (.t 15), none⟩,
    ⟨(some 17), .move (.t 1), some (some 16, false)⟩,
    ⟨(some 18), .len (.t 17), some (some 16, false)⟩,
    ⟨(some 19), .bin .gtr (.t 18) (.c (.int .i64 100)), some (some 16, false)⟩,
    ⟨(some 20), .pick (.t 16) (.c (.bool true)) (.t 19), none⟩])
  (.cond (.t 20)
    (.seq
    (.region [
      ⟨(some 21), .call f_warehouselaw1_known [], none⟩,
      ⟨(some 8), .move (.t 21), none⟩])
    .ret)
    .skip))
  (.seq
  (.region [
    ⟨(some 9), .move (.c .nil), none⟩,
    ⟨(some 10), .move (.c .nil), none⟩])
  (.seq
  (.seq
  (.region [
    ⟨(some 11), .move (.c (.int .i64 0)), none⟩])
  (.block 0
    (.loop
      (.seq
      (.seq
      (.region [
        ⟨(some 22), .move (.t 11), none⟩,
        ⟨(some 23), .move (.t 3), none⟩,
        ⟨(some 24), .bin .and (.t 23) (.c (.int .i64 3)), none⟩,
        ⟨(some 25), .bin .lss (.t 22) (.t 24), none⟩])
      (.cond (.t 25)
        .skip
        (.exit 0)))
      (.seq
      (.block 1
        (.region [
          ⟨(some 28), .move (.t 9), none⟩,
          ⟨(some 29), .move (.t 2), none⟩,
          ⟨(some 30), .move (.t 11), none⟩,
          ⟨(some 31), .call f_warehousebase_At [(.t 29), (.t 30)], none⟩,
          ⟨(some 32), .bin .rem (.t 31) (.c (.int .i64 9)), none⟩,
          ⟨(some 33), .call f_warehousebase_Any [(.t 32)], none⟩,
          ⟨(some 34), .buildSlice 3 1 [(.int .i64 0), (.int .i64 0), (.str (bs []))] [(0, (.t 33))], none⟩,
          ⟨(some 35), .append 3 32 [(.int .i64 0), (.int .i64 0), (.str (bs []))] (.t 28) (.t 34), none⟩,
          ⟨(some 36), .move (.t 10), none⟩,
          ⟨(some 37), .move (.t 2), none⟩,
          ⟨(some 38), .move (.t 11), none⟩,
          ⟨(some 39), .bin .add (.t 38) (.c (.int .i64 3)), none⟩,
          ⟨(some 40), .call f_warehousebase_At [(.t 37), (.t 39)], none⟩,
          ⟨(some 41), .bin .rem (.t 40) (.c (.int .i64 9)), none⟩,
          ⟨(some 42), .call f_warehousebase_Any [(.t 41)], none⟩,
          ⟨(some 43), .buildSlice 3 1 [(.int .i64 0), (.int .i64 0), (.str (bs []))] [(0, (.t 42))], none⟩,
          ⟨(some 44), .append 3 32 [(.int .i64 0), (.int .i64 0), (.str (bs []))] (.t 36) (.t 43), none⟩,
          ⟨(some 9), .move (.t 35), none⟩,
          ⟨(some 10), .move (.t 44), none⟩]))
      (.region [
        ⟨(some 26), .move (.t 11), none⟩,
        ⟨(some 27), .bin .add (.t 26) (.c (.int .i64 1)), none⟩,
        ⟨(some 11), .move (.t 27), none⟩]))))))
  (.seq
  (.region [
    ⟨(some 45), .move (.t 0), none⟩,
    ⟨(some 46), .append 3 32 [(.int .i64 0), (.int .i64 0), (.str (bs []))] (.c .nil) (.t 45), none⟩,
    ⟨(some 47), .build [(.int .i64 0), (.int .i64 0), (.str (bs []))] [], none⟩,
    ⟨(some 48), .buildSlice 3 1 [(.int .i64 0), (.int .i64 0), (.str (bs []))] [(0, (.t 47))], none⟩,
    ⟨(some 49), .append 3 32 [(.int .i64 0), (.int .i64 0), (.str (bs []))] (.t 46) (.t 48), none⟩,
    ⟨(some 12), .move (.t 49), none⟩])
  (.seq
  (.region [
    ⟨(some 50), .move (.t 0), none⟩,
    ⟨(some 51), .move (.t 1), none⟩,
    ⟨(some 52), .call f_value_CompareRows [(.t 50), (.t 51)], none⟩,
    ⟨(some 53), .move (.t 0), none⟩,
    ⟨(some 54), .move (.t 1), none⟩,
    ⟨(some 55), .call f_warehouseref1_CompareRows [(.t 53), (.t 54)], none⟩,
    ⟨(some 56), .bin .eql (.t 52) (.t 55), none⟩,
    ⟨(some 57), .move (.t 56), none⟩,
    ⟨(some 58), .move (.t 9), some (some 57, true)⟩,
    ⟨(some 59), .move (.t 10), some (some 57, true)⟩,
    ⟨(some 60), .call f_value_CompareRows [(.t 58), (.t 59)], some (some 57, true)⟩,
    ⟨(some 61), .move (.t 9), some (some 57, true)⟩,
    ⟨(some 62), .move (.t 10), some (some 57, true)⟩,
    ⟨(some 63), .call f_warehouseref1_CompareRows [(.t 61), (.t 62)], some (some 57, true)⟩,
    ⟨(some 64), .bin .eql (.t 60) (.t 63), some (some 57, true)⟩,
    ⟨(some 65), .pick (.t 57) (.t 64) (.c (.bool false)), none⟩,
    ⟨(some 66), .move (.t 65), none⟩,
    ⟨(some 67), .move (.t 0), some (some 66, true)⟩,
    ⟨(some 68), .move (.t 12), some (some 66, true)⟩,
    ⟨(some 69), .call f_value_CompareRows [(.t 67), (.t 68)], some (some 66, true)⟩,
    ⟨(some 70), .bin .eql (.t 69) (.c (.int .i64 (-1))), some (some 66, true)⟩,
    ⟨(some 71), .pick (.t 66) (.t 70) (.c (.bool false)), none⟩,
    ⟨(some 72), .move (.t 71), none⟩,
    ⟨(some 73), .move (.t 12), some (some 72, true)⟩,
    ⟨(some 74), .move (.t 0), some (some 72, true)⟩,
    ⟨(some 75), .call f_value_CompareRows [(.t 73), (.t 74)], some (some 72, true)⟩,
    ⟨(some 76), .bin .eql (.t 75) (.c (.int .i64 1)), some (some 72, true)⟩,
    ⟨(some 77), .pick (.t 72) (.t 76) (.c (.bool false)), none⟩,
    ⟨(some 78), .move (.t 77), none⟩,
    ⟨(some 79), .move (.t 0), some (some 78, true)⟩,
    ⟨(some 80), .move (.t 0), some (some 78, true)⟩,
    ⟨(some 81), .call f_value_CompareRows [(.t 79), (.t 80)], some (some 78, true)⟩,
    ⟨(some 82), .bin .eql (.t 81) (.c (.int .i64 0)), some (some 78, true)⟩,
    ⟨(some 83), .pick (.t 78) (.t 82) (.c (.bool false)), none⟩,
    ⟨(some 84), .move (.t 83), none⟩,
    ⟨(some 85), .call f_warehouselaw1_known [], some (some 84, true)⟩,
    ⟨(some 86), .pick (.t 84) (.t 85) (.c (.bool false)), none⟩,
    ⟨(some 8), .move (.t 86), none⟩])
  .ret))))))⟩

/-- warehouselaw1_ValueOrders, and what it calls. -/
structure F_warehouselaw1_ValueOrders (P : Program) where
  id : FuncId
  warehouselaw1_known : F_warehouselaw1_known P
  warehousebase_At : F_warehousebase_At P
  warehousebase_Any : F_warehousebase_Any P
  value_CompareRows : F_value_CompareRows P
  warehouseref1_CompareRows : F_warehouseref1_CompareRows P
  has : Has P id [] (c_warehouselaw1_ValueOrders warehouselaw1_known.id warehousebase_At.id warehousebase_Any.id value_CompareRows.id warehouseref1_CompareRows.id)

/-- The code of value_number. -/
def c_value_number : AFunc := ⟨19, [.tmp 2],
  (.seq
  (.region [
    ⟨(some 2), .move (.c (.int .i64 0)), none⟩])
  (.seq
  (.region [
    ⟨(some 3), .move (.c (.int .i64 0)), none⟩])
  (.seq
  (.seq
  (.region [
    ⟨(some 6), .move (.t 0), none⟩,
    ⟨(some 7), .len (.t 6), none⟩,
    ⟨(some 8), .move (.c (.int .i64 0)), none⟩])
  (.block 0
    (.loop
      (.seq
      (.region [
        ⟨(some 9), .bin .lss (.t 8) (.t 7), none⟩])
      (.seq
      (.cond (.t 9)
        .skip
        (.exit 0))
      (.seq
      (.block 1
        (.seq
        (.region [
          ⟨(some 10), .indexAddr 1 (.t 6) (.t 8), none⟩,
          ⟨(some 11), .load false 1 (.t 10), none⟩,
          ⟨(some 5), .move (.t 11), none⟩])
        (.region [
          ⟨(some 12), .move (.t 3), none⟩,
          ⟨(some 13), .bin .shl (.t 12) (.c (.int .u64 8)), none⟩,
          ⟨(some 14), .move (.t 5), none⟩,
          ⟨(some 15), .conv .i64 (.t 14), none⟩,
          ⟨(some 16), .bin .or (.t 13) (.t 15), none⟩,
          ⟨(some 3), .move (.t 16), none⟩])))
      (.region [
        ⟨(some 17), .bin .add (.t 8) (.c (.int .i64 1)), none⟩,
        ⟨(some 8), .move (.t 17), none⟩])))))))
  (.seq
  (.region [
    ⟨(some 18), .move (.t 3), none⟩,
    ⟨(some 2), .move (.t 18), none⟩])
  .ret))))⟩

/-- value_number, and what it calls. -/
structure F_value_number (P : Program) where
  id : FuncId
  has : Has P id [] c_value_number

/-- The code of value_decode. -/
def c_value_decode (f_value_number : FuncId) : AFunc := ⟨98, [.cell true 3 2, .tmp 3],
  (.seq
  (.region [
    ⟨(some 2), .alloc [(.int .i64 0), (.int .i64 0), (.str (bs []))], none⟩,
    ⟨(some 3), .move (.c (.int .i64 0)), none⟩])
  (.seq
  (.seq
  (.region [
    ⟨(some 5), .move (.t 0), none⟩,
    ⟨(some 6), .len (.t 5), none⟩,
    ⟨(some 7), .bin .eql (.t 6) (.c (.int .i64 0)), none⟩])
  (.cond (.t 7)
    (.seq
    (.region [
      ⟨(some 8), .build [(.int .i64 0), (.int .i64 0), (.str (bs []))] [], none⟩,
      ⟨none, .store 3 (.t 2) (.t 8), none⟩,
      ⟨(some 3), .move (.c (.int .i64 0)), none⟩])
    .ret)
    .skip))
  (.seq
  (.region [
    ⟨(some 9), .move (.t 0), none⟩,
    ⟨(some 10), .indexAddr 1 (.t 9) (.c (.int .i64 0)), none⟩,
    ⟨(some 11), .load false 1 (.t 10), none⟩,
    ⟨(some 12), .conv .i64 (.t 11), none⟩,
    ⟨(some 13), .build [(.int .i64 0), (.int .i64 0), (.str (bs []))] [(0, 1, (.t 12))], none⟩,
    ⟨(some 4), .alloc [(.int .i64 0), (.int .i64 0), (.str (bs []))], none⟩,
    ⟨none, .store 3 (.t 4) (.t 13), none⟩])
  (.seq
  (.block 0
    (.seq
    (.region [
      ⟨(some 15), .fieldAddr 0 (.t 4), none⟩,
      ⟨(some 16), .load false 1 (.t 15), none⟩,
      ⟨(some 17), .bin .eql (.t 16) (.c (.int .i64 0)), none⟩,
      ⟨(some 14), .move (.t 17), none⟩])
    (.cond (.t 14)
      (.seq
      (.region [
        ⟨(some 18), .load true 3 (.t 4), none⟩,
        ⟨none, .store 3 (.t 2) (.t 18), none⟩,
        ⟨(some 3), .move (.c (.int .i64 1)), none⟩])
      .ret)
      (.seq
      (.region [
        ⟨(some 20), .fieldAddr 0 (.t 4), none⟩,
        ⟨(some 21), .load false 1 (.t 20), none⟩,
        ⟨(some 22), .bin .eql (.t 21) (.c (.int .i64 1)), none⟩,
        ⟨(some 23), .move (.t 22), none⟩,
        ⟨(some 24), .move (.t 0), some (some 23, true)⟩,
        ⟨(some 25), .len (.t 24), some (some 23, true)⟩,
        ⟨(some 26), .bin .geq (.t 25) (.c (.int .i64 2)), some (some 23, true)⟩,
        ⟨(some 27), .pick (.t 23) (.t 26) (.c (.bool false)), none⟩,
        ⟨(some 19), .move (.t 27), none⟩])
      (.cond (.t 19)
        (.seq
        (.region [
          ⟨(some 28), .move (.t 0), none⟩,
          ⟨(some 29), .indexAddr 1 (.t 28) (.c (.int .i64 1)), none⟩,
          ⟨(some 30), .load false 1 (.t 29), none⟩,
          ⟨(some 31), .conv .i64 (.t 30), none⟩,
          ⟨(some 32), .fieldAddr 1 (.t 4), none⟩,
          ⟨none, .store 1 (.t 32) (.t 31), none⟩])
        (.seq
        (.region [
          ⟨(some 33), .load true 3 (.t 4), none⟩,
          ⟨none, .store 3 (.t 2) (.t 33), none⟩,
          ⟨(some 3), .move (.c (.int .i64 2)), none⟩])
        .ret))
        (.seq
        (.region [
          ⟨(some 35), .fieldAddr 0 (.t 4), none⟩,
          ⟨(some 36), .load false 1 (.t 35), none⟩,
          ⟨(some 37), .bin .eql (.t 36) (.c (.int .i64 2)), none⟩,
          ⟨(some 38), .move (.t 37), none⟩,
          ⟨(some 39), .move (.t 0), some (some 38, true)⟩,
          ⟨(some 40), .len (.t 39), some (some 38, true)⟩,
          ⟨(some 41), .bin .geq (.t 40) (.c (.int .i64 5)), some (some 38, true)⟩,
          ⟨(some 42), .pick (.t 38) (.t 41) (.c (.bool false)), none⟩,
          ⟨(some 34), .move (.t 42), none⟩])
        (.cond (.t 34)
          (.seq
          (.region [
            ⟨(some 43), .move (.t 0), none⟩,
            ⟨(some 44), .slice 1 (.t 43) (some (.c (.int .i64 1))) (some (.c (.int .i64 5))), none⟩,
            ⟨(some 45), .call f_value_number [(.t 44)], none⟩,
            ⟨(some 46), .bin .sub (.t 45) (.c (.int .i64 1073741824)), none⟩,
            ⟨(some 47), .fieldAddr 1 (.t 4), none⟩,
            ⟨none, .store 1 (.t 47) (.t 46), none⟩])
          (.seq
          (.region [
            ⟨(some 48), .load true 3 (.t 4), none⟩,
            ⟨none, .store 3 (.t 2) (.t 48), none⟩,
            ⟨(some 3), .move (.c (.int .i64 5)), none⟩])
          .ret))
          (.seq
          (.region [
            ⟨(some 50), .fieldAddr 0 (.t 4), none⟩,
            ⟨(some 51), .load false 1 (.t 50), none⟩,
            ⟨(some 52), .bin .eql (.t 51) (.c (.int .i64 4)), none⟩,
            ⟨(some 53), .move (.t 52), none⟩,
            ⟨(some 54), .move (.t 0), some (some 53, true)⟩,
            ⟨(some 55), .len (.t 54), some (some 53, true)⟩,
            ⟨(some 56), .bin .geq (.t 55) (.c (.int .i64 5)), some (some 53, true)⟩,
            ⟨(some 57), .pick (.t 53) (.t 56) (.c (.bool false)), none⟩,
            ⟨(some 49), .move (.t 57), none⟩])
          (.cond (.t 49)
            (.seq
            (.region [
              ⟨(some 58), .move (.t 0), none⟩,
              ⟨(some 59), .slice 1 (.t 58) (some (.c (.int .i64 1))) (some (.c (.int .i64 5))), none⟩,
              ⟨(some 60), .call f_value_number [(.t 59)], none⟩,
              ⟨(some 61), .fieldAddr 1 (.t 4), none⟩,
              ⟨none, .store 1 (.t 61) (.t 60), none⟩])
            (.seq
            (.region [
              ⟨(some 62), .load true 3 (.t 4), none⟩,
              ⟨none, .store 3 (.t 2) (.t 62), none⟩,
              ⟨(some 3), .move (.c (.int .i64 5)), none⟩])
            .ret))
            (.seq
            (.region [
              ⟨(some 64), .fieldAddr 0 (.t 4), none⟩,
              ⟨(some 65), .load false 1 (.t 64), none⟩,
              ⟨(some 66), .bin .eql (.t 65) (.c (.int .i64 3)), none⟩,
              ⟨(some 67), .move (.t 66), none⟩,
              ⟨(some 68), .move (.t 0), some (some 67, true)⟩,
              ⟨(some 69), .len (.t 68), some (some 67, true)⟩,
              ⟨(some 70), .bin .geq (.t 69) (.c (.int .i64 2)), some (some 67, true)⟩,
              ⟨(some 71), .pick (.t 67) (.t 70) (.c (.bool false)), none⟩,
              ⟨(some 72), .move (.t 71), none⟩,
              ⟨(some 73), .move (.t 0), some (some 72, true)⟩,
              ⟨(some 74), .len (.t 73), some (some 72, true)⟩,
              ⟨(some 75), .move (.t 0), some (some 72, true)⟩,
              ⟨(some 76), .indexAddr 1 (.t 75) (.c (.int .i64 1)), some (some 72, true)⟩,
              ⟨(some 77), .load false 1 (.t 76), some (some 72, true)⟩,
              ⟨(some 78), .conv .i64 (.t 77), some (some 72, true)⟩,
              ⟨(some 79), .bin .add (.c (.int .i64 2)) (.t 78), some (some 72, true)⟩,
              ⟨(some 80), .bin .geq (.t 74) (.t 79), some (some 72, true)⟩,
              ⟨(some 81), .pick (.t 72) (.t 80) (.c (.bool false)), none⟩,
              ⟨(some 63), .move (.t 81), none⟩])
            (.cond (.t 63)
              (.seq
              (.region [
                ⟨(some 82), .move (.t 0), none⟩,
                ⟨(some 83), .move (.t 0), none⟩,
                ⟨(some 84), .indexAddr 1 (.t 83) (.c (.int .i64 1)), none⟩,
                ⟨(some 85), .load false 1 (.t 84), none⟩,
                ⟨(some 86), .conv .i64 (.t 85), none⟩,
                ⟨(some 87), .bin .add (.c (.int .i64 2)) (.t 86), none⟩,
                ⟨(some 88), .slice 1 (.t 82) (some (.c (.int .i64 2))) (some (.t 87)), none⟩,
                ⟨(some 89), .convBS (.t 88), none⟩,
                ⟨(some 90), .fieldAddr 2 (.t 4), none⟩,
                ⟨none, .store 1 (.t 90) (.t 89), none⟩])
              (.seq
              (.draw [
                (⟨(some 91), .load true 3 (.t 4), none⟩, []),
                (⟨(some 92), .move (.t 0), none⟩, []),
                (⟨(some 93), .indexAddr 1 (.t 92) (.c (.int .i64 1)), none⟩, [1]),
                (⟨(some 94), .load false 1 (.t 93), none⟩, [1]),
                (⟨(some 95), .conv .i64 (.t 94), none⟩, []),
                (⟨(some 96), .bin .add (.c (.int .i64 2)) (.t 95), none⟩, []),
                (⟨none, .store 3 (.t 2) (.t 91), none⟩, []),
                (⟨(some 3), .move (.t 96), none⟩, [])])
              .ret))
              .skip)))))))))))
  (.seq
  (.region [
    ⟨(some 97), .build [(.int .i64 0), (.int .i64 0), (.str (bs []))] [], none⟩,
    ⟨none, .store 3 (.t 2) (.t 97), none⟩,
    ⟨(some 3), .move (.c (.int .i64 0)), none⟩])
  .ret)))))⟩

/-- value_decode, and what it calls. -/
structure F_value_decode (P : Program) where
  id : FuncId
  value_number : F_value_number P
  has : Has P id [] (c_value_decode value_number.id)

/-- The code of value_Decode. -/
def c_value_Decode (f_value_decode : FuncId) (f_value_Valid : FuncId) : AFunc := ⟨50, [.tmp 2, .tmp 3],
  (.seq
  (.region [
    ⟨(some 2), .move (.c .nil), none⟩,
    ⟨(some 3), .move (.c (.int .i64 0)), none⟩])
  (.seq
  (.seq
  (.region [
    ⟨(some 8), .move (.t 0), none⟩,
    ⟨(some 9), .len (.t 8), none⟩,
    ⟨(some 10), .bin .eql (.t 9) (.c (.int .i64 0)), none⟩,
    ⟨(some 11), .move (.t 10), none⟩,
    ⟨(some 12), .move (.t 0), some (some 11, false)⟩,
    ⟨(some 13), .indexAddr 1 (.t 12) (.c (.int .i64 0)), some (some 11, false)⟩,
    ⟨(some 14), .load false 1 (.t 13), some (some 11, false)⟩,
    ⟨(some 15), .bin .gtr (.t 14) (.c (.int .u8 12)), some (some 11, false)⟩,
    ⟨(some 16), .pick (.t 11) (.c (.bool true)) (.t 15), none⟩])
  (.cond (.t 16)
    (.seq
    (.region [
      ⟨(some 2), .move (.c .nil), none⟩,
      ⟨(some 3), .move (.c (.int .i64 11)), none⟩])
    .ret)
    .skip))
  (.seq
  (.region [
    ⟨(some 17), .move (.t 0), none⟩,
    ⟨(some 18), .indexAddr 1 (.t 17) (.c (.int .i64 0)), none⟩,
    ⟨(some 19), .load false 1 (.t 18), none⟩,
    ⟨(some 20), .conv .i64 (.t 19), none⟩,
    ⟨(some 4), .move (.t 20), none⟩])
  (.seq
  (.region [
    ⟨(some 21), .move (.t 0), none⟩,
    ⟨(some 22), .slice 1 (.t 21) (some (.c (.int .i64 1))) none, none⟩,
    ⟨(some 0), .move (.t 22), none⟩])
  (.seq
  (.region [
    ⟨(some 5), .move (.c .nil), none⟩])
  (.seq
  (.seq
  (.region [
    ⟨(some 23), .move (.t 4), none⟩,
    ⟨(some 24), .move (.c (.int .i64 0)), none⟩])
  (.block 0
    (.loop
      (.seq
      (.region [
        ⟨(some 25), .bin .lss (.t 24) (.t 23), none⟩])
      (.seq
      (.cond (.t 25)
        .skip
        (.exit 0))
      (.seq
      (.block 1
        (.seq
        (.region [
          ⟨(some 27), .move (.t 0), none⟩,
          ⟨(some 28), .call f_value_decode [(.t 27)], none⟩,
          ⟨(some 26), .move (.t 28), none⟩,
          ⟨(some 29), .extract (.t 26) 0, none⟩,
          ⟨(some 30), .extract (.t 26) 1, none⟩,
          ⟨(some 6), .alloc [(.int .i64 0), (.int .i64 0), (.str (bs []))], none⟩,
          ⟨none, .store 3 (.t 6) (.t 29), none⟩,
          ⟨(some 7), .move (.t 30), none⟩])
        (.seq
        (.seq
        (.region [
          ⟨(some 31), .move (.t 7), none⟩,
          ⟨(some 32), .bin .eql (.t 31) (.c (.int .i64 0)), none⟩,
          ⟨(some 33), .move (.t 32), none⟩,
          ⟨(some 34), .load true 3 (.t 6), some (some 33, false)⟩,
          ⟨(some 35), .call f_value_Valid [(.t 34)], some (some 33, false)⟩,
          ⟨(some 36), .un .not (.t 35), some (some 33, false)⟩,
          ⟨(some 37), .pick (.t 33) (.c (.bool true)) (.t 36), none⟩])
        (.cond (.t 37)
          (.seq
          (.region [
            ⟨(some 2), .move (.c .nil), none⟩,
            ⟨(some 3), .move (.c (.int .i64 11)), none⟩])
          .ret)
          .skip))
        (.draw [
          (⟨(some 38), .move (.t 5), none⟩, []),
          (⟨(some 39), .load true 3 (.t 6), none⟩, []),
          (⟨(some 40), .buildSlice 3 1 [(.int .i64 0), (.int .i64 0), (.str (bs []))] [(0, (.t 39))], none⟩, []),
          (⟨(some 41), .append 3 32 [(.int .i64 0), (.int .i64 0), (.str (bs []))] (.t 38) (.t 40), none⟩, []),
          (⟨(some 42), .move (.t 0), none⟩, []),
          (⟨(some 43), .move (.t 7), none⟩, []),
          (⟨(some 44), .slice 1 (.t 42) (some (.t 43)) none, none⟩, [9]),
          (⟨(some 5), .move (.t 41), none⟩, []),
          (⟨(some 0), .move (.t 44), none⟩, [])]))))
      (.region [
        ⟨(some 45), .bin .add (.t 24) (.c (.int .i64 1)), none⟩,
        ⟨(some 24), .move (.t 45), none⟩])))))))
  (.seq
  (.seq
  (.region [
    ⟨(some 46), .move (.t 0), none⟩,
    ⟨(some 47), .len (.t 46), none⟩,
    ⟨(some 48), .bin .gtr (.t 47) (.c (.int .i64 0)), none⟩])
  (.cond (.t 48)
    (.seq
    (.region [
      ⟨(some 2), .move (.c .nil), none⟩,
      ⟨(some 3), .move (.c (.int .i64 11)), none⟩])
    .ret)
    .skip))
  (.seq
  (.region [
    ⟨(some 49), .move (.t 5), none⟩,
    ⟨(some 2), .move (.t 49), none⟩,
    ⟨(some 3), .move (.c (.int .i64 0)), none⟩])
  .ret))))))))⟩

/-- value_Decode, and what it calls. -/
structure F_value_Decode (P : Program) where
  id : FuncId
  value_decode : F_value_decode P
  value_Valid : F_value_Valid P
  has : Has P id [] (c_value_Decode value_decode.id value_Valid.id)

/-- The code of warehouseref1_number. -/
def c_warehouseref1_number : AFunc := ⟨25, [.tmp 2],
  (.seq
  (.region [
    ⟨(some 2), .move (.c (.int .i64 0)), none⟩])
  (.seq
  (.draw [
    (⟨(some 3), .move (.t 0), none⟩, []),
    (⟨(some 4), .indexAddr 1 (.t 3) (.c (.int .i64 0)), none⟩, []),
    (⟨(some 5), .load false 1 (.t 4), none⟩, []),
    (⟨(some 6), .conv .i64 (.t 5), none⟩, []),
    (⟨(some 7), .bin .shl (.t 6) (.c (.int .u64 24)), none⟩, []),
    (⟨(some 8), .move (.t 0), none⟩, []),
    (⟨(some 9), .indexAddr 1 (.t 8) (.c (.int .i64 1)), none⟩, []),
    (⟨(some 10), .load false 1 (.t 9), none⟩, []),
    (⟨(some 11), .conv .i64 (.t 10), none⟩, []),
    (⟨(some 12), .bin .shl (.t 11) (.c (.int .u64 16)), none⟩, []),
    (⟨(some 13), .bin .or (.t 7) (.t 12), none⟩, []),
    (⟨(some 14), .move (.t 0), none⟩, []),
    (⟨(some 15), .indexAddr 1 (.t 14) (.c (.int .i64 2)), none⟩, []),
    (⟨(some 16), .load false 1 (.t 15), none⟩, []),
    (⟨(some 17), .conv .i64 (.t 16), none⟩, []),
    (⟨(some 18), .bin .shl (.t 17) (.c (.int .u64 8)), none⟩, []),
    (⟨(some 19), .bin .or (.t 13) (.t 18), none⟩, []),
    (⟨(some 20), .move (.t 0), none⟩, []),
    (⟨(some 21), .indexAddr 1 (.t 20) (.c (.int .i64 3)), none⟩, []),
    (⟨(some 22), .load false 1 (.t 21), none⟩, []),
    (⟨(some 23), .conv .i64 (.t 22), none⟩, []),
    (⟨(some 24), .bin .or (.t 19) (.t 23), none⟩, []),
    (⟨(some 2), .move (.t 24), none⟩, [])])
  .ret))⟩

/-- warehouseref1_number, and what it calls. -/
structure F_warehouseref1_number (P : Program) where
  id : FuncId
  has : Has P id [] c_warehouseref1_number

/-- The code of warehouseref1_decode. -/
def c_warehouseref1_decode (f_warehouseref1_number : FuncId) : AFunc := ⟨98, [.cell true 3 2, .tmp 3],
  (.seq
  (.region [
    ⟨(some 2), .alloc [(.int .i64 0), (.int .i64 0), (.str (bs []))], none⟩,
    ⟨(some 3), .move (.c (.int .i64 0)), none⟩])
  (.seq
  (.seq
  (.region [
    ⟨(some 5), .move (.t 0), none⟩,
    ⟨(some 6), .len (.t 5), none⟩,
    ⟨(some 7), .bin .eql (.t 6) (.c (.int .i64 0)), none⟩])
  (.cond (.t 7)
    (.seq
    (.region [
      ⟨(some 8), .build [(.int .i64 0), (.int .i64 0), (.str (bs []))] [], none⟩,
      ⟨none, .store 3 (.t 2) (.t 8), none⟩,
      ⟨(some 3), .move (.c (.int .i64 0)), none⟩])
    .ret)
    .skip))
  (.seq
  (.region [
    ⟨(some 9), .move (.t 0), none⟩,
    ⟨(some 10), .indexAddr 1 (.t 9) (.c (.int .i64 0)), none⟩,
    ⟨(some 11), .load false 1 (.t 10), none⟩,
    ⟨(some 12), .conv .i64 (.t 11), none⟩,
    ⟨(some 13), .build [(.int .i64 0), (.int .i64 0), (.str (bs []))] [(0, 1, (.t 12))], none⟩,
    ⟨(some 4), .alloc [(.int .i64 0), (.int .i64 0), (.str (bs []))], none⟩,
    ⟨none, .store 3 (.t 4) (.t 13), none⟩])
  (.seq
  (.block 0
    (.seq
    (.region [
      ⟨(some 15), .fieldAddr 0 (.t 4), none⟩,
      ⟨(some 16), .load false 1 (.t 15), none⟩,
      ⟨(some 17), .bin .eql (.t 16) (.c (.int .i64 0)), none⟩,
      ⟨(some 14), .move (.t 17), none⟩])
    (.cond (.t 14)
      (.seq
      (.region [
        ⟨(some 18), .load true 3 (.t 4), none⟩,
        ⟨none, .store 3 (.t 2) (.t 18), none⟩,
        ⟨(some 3), .move (.c (.int .i64 1)), none⟩])
      .ret)
      (.seq
      (.region [
        ⟨(some 20), .fieldAddr 0 (.t 4), none⟩,
        ⟨(some 21), .load false 1 (.t 20), none⟩,
        ⟨(some 22), .bin .eql (.t 21) (.c (.int .i64 1)), none⟩,
        ⟨(some 23), .move (.t 22), none⟩,
        ⟨(some 24), .move (.t 0), some (some 23, true)⟩,
        ⟨(some 25), .len (.t 24), some (some 23, true)⟩,
        ⟨(some 26), .bin .geq (.t 25) (.c (.int .i64 2)), some (some 23, true)⟩,
        ⟨(some 27), .pick (.t 23) (.t 26) (.c (.bool false)), none⟩,
        ⟨(some 19), .move (.t 27), none⟩])
      (.cond (.t 19)
        (.seq
        (.region [
          ⟨(some 28), .move (.t 0), none⟩,
          ⟨(some 29), .indexAddr 1 (.t 28) (.c (.int .i64 1)), none⟩,
          ⟨(some 30), .load false 1 (.t 29), none⟩,
          ⟨(some 31), .conv .i64 (.t 30), none⟩,
          ⟨(some 32), .fieldAddr 1 (.t 4), none⟩,
          ⟨none, .store 1 (.t 32) (.t 31), none⟩])
        (.seq
        (.region [
          ⟨(some 33), .load true 3 (.t 4), none⟩,
          ⟨none, .store 3 (.t 2) (.t 33), none⟩,
          ⟨(some 3), .move (.c (.int .i64 2)), none⟩])
        .ret))
        (.seq
        (.region [
          ⟨(some 35), .fieldAddr 0 (.t 4), none⟩,
          ⟨(some 36), .load false 1 (.t 35), none⟩,
          ⟨(some 37), .bin .eql (.t 36) (.c (.int .i64 2)), none⟩,
          ⟨(some 38), .move (.t 37), none⟩,
          ⟨(some 39), .move (.t 0), some (some 38, true)⟩,
          ⟨(some 40), .len (.t 39), some (some 38, true)⟩,
          ⟨(some 41), .bin .geq (.t 40) (.c (.int .i64 5)), some (some 38, true)⟩,
          ⟨(some 42), .pick (.t 38) (.t 41) (.c (.bool false)), none⟩,
          ⟨(some 34), .move (.t 42), none⟩])
        (.cond (.t 34)
          (.seq
          (.region [
            ⟨(some 43), .move (.t 0), none⟩,
            ⟨(some 44), .slice 1 (.t 43) (some (.c (.int .i64 1))) none, none⟩,
            ⟨(some 45), .call f_warehouseref1_number [(.t 44)], none⟩,
            ⟨(some 46), .bin .sub (.t 45) (.c (.int .i64 1073741824)), none⟩,
            ⟨(some 47), .fieldAddr 1 (.t 4), none⟩,
            ⟨none, .store 1 (.t 47) (.t 46), none⟩])
          (.seq
          (.region [
            ⟨(some 48), .load true 3 (.t 4), none⟩,
            ⟨none, .store 3 (.t 2) (.t 48), none⟩,
            ⟨(some 3), .move (.c (.int .i64 5)), none⟩])
          .ret))
          (.seq
          (.region [
            ⟨(some 50), .fieldAddr 0 (.t 4), none⟩,
            ⟨(some 51), .load false 1 (.t 50), none⟩,
            ⟨(some 52), .bin .eql (.t 51) (.c (.int .i64 3)), none⟩,
            ⟨(some 53), .move (.t 52), none⟩,
            ⟨(some 54), .move (.t 0), some (some 53, true)⟩,
            ⟨(some 55), .len (.t 54), some (some 53, true)⟩,
            ⟨(some 56), .bin .geq (.t 55) (.c (.int .i64 2)), some (some 53, true)⟩,
            ⟨(some 57), .pick (.t 53) (.t 56) (.c (.bool false)), none⟩,
            ⟨(some 58), .move (.t 57), none⟩,
            ⟨(some 59), .move (.t 0), some (some 58, true)⟩,
            ⟨(some 60), .len (.t 59), some (some 58, true)⟩,
            ⟨(some 61), .move (.t 0), some (some 58, true)⟩,
            ⟨(some 62), .indexAddr 1 (.t 61) (.c (.int .i64 1)), some (some 58, true)⟩,
            ⟨(some 63), .load false 1 (.t 62), some (some 58, true)⟩,
            ⟨(some 64), .conv .i64 (.t 63), some (some 58, true)⟩,
            ⟨(some 65), .bin .add (.c (.int .i64 2)) (.t 64), some (some 58, true)⟩,
            ⟨(some 66), .bin .geq (.t 60) (.t 65), some (some 58, true)⟩,
            ⟨(some 67), .pick (.t 58) (.t 66) (.c (.bool false)), none⟩,
            ⟨(some 49), .move (.t 67), none⟩])
          (.cond (.t 49)
            (.seq
            (.region [
              ⟨(some 68), .move (.t 0), none⟩,
              ⟨(some 69), .move (.t 0), none⟩,
              ⟨(some 70), .indexAddr 1 (.t 69) (.c (.int .i64 1)), none⟩,
              ⟨(some 71), .load false 1 (.t 70), none⟩,
              ⟨(some 72), .conv .i64 (.t 71), none⟩,
              ⟨(some 73), .bin .add (.c (.int .i64 2)) (.t 72), none⟩,
              ⟨(some 74), .slice 1 (.t 68) (some (.c (.int .i64 2))) (some (.t 73)), none⟩,
              ⟨(some 75), .convBS (.t 74), none⟩,
              ⟨(some 76), .fieldAddr 2 (.t 4), none⟩,
              ⟨none, .store 1 (.t 76) (.t 75), none⟩])
            (.seq
            (.draw [
              (⟨(some 77), .load true 3 (.t 4), none⟩, []),
              (⟨(some 78), .move (.t 0), none⟩, []),
              (⟨(some 79), .indexAddr 1 (.t 78) (.c (.int .i64 1)), none⟩, [1]),
              (⟨(some 80), .load false 1 (.t 79), none⟩, [1]),
              (⟨(some 81), .conv .i64 (.t 80), none⟩, []),
              (⟨(some 82), .bin .add (.c (.int .i64 2)) (.t 81), none⟩, []),
              (⟨none, .store 3 (.t 2) (.t 77), none⟩, []),
              (⟨(some 3), .move (.t 82), none⟩, [])])
            .ret))
            (.seq
            (.region [
              ⟨(some 84), .fieldAddr 0 (.t 4), none⟩,
              ⟨(some 85), .load false 1 (.t 84), none⟩,
              ⟨(some 86), .bin .eql (.t 85) (.c (.int .i64 4)), none⟩,
              ⟨(some 87), .move (.t 86), none⟩,
              ⟨(some 88), .move (.t 0), some (some 87, true)⟩,
              ⟨(some 89), .len (.t 88), some (some 87, true)⟩,
              ⟨(some 90), .bin .geq (.t 89) (.c (.int .i64 5)), some (some 87, true)⟩,
              ⟨(some 91), .pick (.t 87) (.t 90) (.c (.bool false)), none⟩,
              ⟨(some 83), .move (.t 91), none⟩])
            (.cond (.t 83)
              (.seq
              (.region [
                ⟨(some 92), .move (.t 0), none⟩,
                ⟨(some 93), .slice 1 (.t 92) (some (.c (.int .i64 1))) none, none⟩,
                ⟨(some 94), .call f_warehouseref1_number [(.t 93)], none⟩,
                ⟨(some 95), .fieldAddr 1 (.t 4), none⟩,
                ⟨none, .store 1 (.t 95) (.t 94), none⟩])
              (.seq
              (.region [
                ⟨(some 96), .load true 3 (.t 4), none⟩,
                ⟨none, .store 3 (.t 2) (.t 96), none⟩,
                ⟨(some 3), .move (.c (.int .i64 5)), none⟩])
              .ret))
              .skip)))))))))))
  (.seq
  (.region [
    ⟨(some 97), .build [(.int .i64 0), (.int .i64 0), (.str (bs []))] [], none⟩,
    ⟨none, .store 3 (.t 2) (.t 97), none⟩,
    ⟨(some 3), .move (.c (.int .i64 0)), none⟩])
  .ret)))))⟩

/-- warehouseref1_decode, and what it calls. -/
structure F_warehouseref1_decode (P : Program) where
  id : FuncId
  warehouseref1_number : F_warehouseref1_number P
  has : Has P id [] (c_warehouseref1_decode warehouseref1_number.id)

/-- The code of warehouseref1_Decode. -/
def c_warehouseref1_Decode (f_warehouseref1_decode : FuncId) (f_warehouseref1_Valid : FuncId) : AFunc := ⟨53, [.tmp 2, .tmp 3],
  (.seq
  (.region [
    ⟨(some 2), .move (.c .nil), none⟩,
    ⟨(some 3), .move (.c (.int .i64 0)), none⟩])
  (.seq
  (.seq
  (.region [
    ⟨(some 9), .move (.t 0), none⟩,
    ⟨(some 10), .len (.t 9), none⟩,
    ⟨(some 11), .bin .eql (.t 10) (.c (.int .i64 0)), none⟩,
    ⟨(some 12), .move (.t 11), none⟩,
    ⟨(some 13), .move (.t 0), some (some 12, false)⟩,
    ⟨(some 14), .indexAddr 1 (.t 13) (.c (.int .i64 0)), some (some 12, false)⟩,
    ⟨(some 15), .load false 1 (.t 14), some (some 12, false)⟩,
    ⟨(some 16), .conv .i64 (.t 15), some (some 12, false)⟩,
    ⟨(some 17), .bin .gtr (.t 16) (.c (.int .i64 12)), some (some 12, false)⟩,
    ⟨(some 18), .pick (.t 12) (.c (.bool true)) (.t 17), none⟩])
  (.cond (.t 18)
    (.seq
    (.region [
      ⟨(some 2), .move (.c .nil), none⟩,
      ⟨(some 3), .move (.c (.int .i64 11)), none⟩])
    .ret)
    .skip))
  (.seq
  (.region [
    ⟨(some 4), .move (.c .nil), none⟩])
  (.seq
  (.region [
    ⟨(some 5), .move (.c (.int .i64 1)), none⟩])
  (.seq
  (.seq
  (.region [
    ⟨(some 6), .move (.c (.int .i64 0)), none⟩])
  (.block 0
    (.loop
      (.seq
      (.seq
      (.region [
        ⟨(some 19), .move (.t 6), none⟩,
        ⟨(some 20), .move (.t 0), none⟩,
        ⟨(some 21), .indexAddr 1 (.t 20) (.c (.int .i64 0)), none⟩,
        ⟨(some 22), .load false 1 (.t 21), none⟩,
        ⟨(some 23), .conv .i64 (.t 22), none⟩,
        ⟨(some 24), .bin .lss (.t 19) (.t 23), none⟩])
      (.cond (.t 24)
        .skip
        (.exit 0)))
      (.seq
      (.block 1
        (.seq
        (.region [
          ⟨(some 28), .move (.t 0), none⟩,
          ⟨(some 29), .move (.t 5), none⟩,
          ⟨(some 30), .slice 1 (.t 28) (some (.t 29)) none, none⟩,
          ⟨(some 31), .call f_warehouseref1_decode [(.t 30)], none⟩,
          ⟨(some 27), .move (.t 31), none⟩,
          ⟨(some 32), .extract (.t 27) 0, none⟩,
          ⟨(some 33), .extract (.t 27) 1, none⟩,
          ⟨(some 7), .alloc [(.int .i64 0), (.int .i64 0), (.str (bs []))], none⟩,
          ⟨none, .store 3 (.t 7) (.t 32), none⟩,
          ⟨(some 8), .move (.t 33), none⟩])
        (.seq
        (.seq
        (.region [
          ⟨(some 34), .move (.t 8), none⟩,
          ⟨(some 35), .bin .eql (.t 34) (.c (.int .i64 0)), none⟩,
          ⟨(some 36), .move (.t 35), none⟩,
          ⟨(some 37), .load true 3 (.t 7), some (some 36, false)⟩,
          ⟨(some 38), .call f_warehouseref1_Valid [(.t 37)], some (some 36, false)⟩,
          ⟨(some 39), .un .not (.t 38), some (some 36, false)⟩,
          ⟨(some 40), .pick (.t 36) (.c (.bool true)) (.t 39), none⟩])
        (.cond (.t 40)
          (.seq
          (.region [
            ⟨(some 2), .move (.c .nil), none⟩,
            ⟨(some 3), .move (.c (.int .i64 11)), none⟩])
          .ret)
          .skip))
        (.seq
        (.region [
          ⟨(some 41), .move (.t 4), none⟩,
          ⟨(some 42), .load true 3 (.t 7), none⟩,
          ⟨(some 43), .buildSlice 3 1 [(.int .i64 0), (.int .i64 0), (.str (bs []))] [(0, (.t 42))], none⟩,
          ⟨(some 44), .append 3 32 [(.int .i64 0), (.int .i64 0), (.str (bs []))] (.t 41) (.t 43), none⟩,
          ⟨(some 4), .move (.t 44), none⟩])
        (.region [
          ⟨(some 45), .move (.t 5), none⟩,
          ⟨(some 46), .move (.t 8), none⟩,
          ⟨(some 47), .bin .add (.t 45) (.t 46), none⟩,
          ⟨(some 5), .move (.t 47), none⟩])))))
      (.region [
        ⟨(some 25), .move (.t 6), none⟩,
        ⟨(some 26), .bin .add (.t 25) (.c (.int .i64 1)), none⟩,
        ⟨(some 6), .move (.t 26), none⟩]))))))
  (.seq
  (.seq
  (.region [
    ⟨(some 48), .move (.t 5), none⟩,
    ⟨(some 49), .move (.t 0), none⟩,
    ⟨(some 50), .len (.t 49), none⟩,
    ⟨(some 51), .bin .neq (.t 48) (.t 50), none⟩])
  (.cond (.t 51)
    (.seq
    (.region [
      ⟨(some 2), .move (.c .nil), none⟩,
      ⟨(some 3), .move (.c (.int .i64 11)), none⟩])
    .ret)
    .skip))
  (.seq
  (.region [
    ⟨(some 52), .move (.t 4), none⟩,
    ⟨(some 2), .move (.t 52), none⟩,
    ⟨(some 3), .move (.c (.int .i64 0)), none⟩])
  .ret)))))))⟩

/-- warehouseref1_Decode, and what it calls. -/
structure F_warehouseref1_Decode (P : Program) where
  id : FuncId
  warehouseref1_decode : F_warehouseref1_decode P
  warehouseref1_Valid : F_warehouseref1_Valid P
  has : Has P id [] (c_warehouseref1_Decode warehouseref1_decode.id warehouseref1_Valid.id)

/-- The code of warehouseref1_SameRow. -/
def c_warehouseref1_SameRow (f_warehouseref1_CompareRows : FuncId) : AFunc := ⟨9, [.tmp 4],
  (.seq
  (.region [
    ⟨(some 4), .move (.c (.bool false)), none⟩])
  (.seq
  (.region [
    ⟨(some 5), .move (.t 0), none⟩,
    ⟨(some 6), .move (.t 1), none⟩,
    ⟨(some 7), .call f_warehouseref1_CompareRows [(.t 5), (.t 6)], none⟩,
    ⟨(some 8), .bin .eql (.t 7) (.c (.int .i64 0)), none⟩,
    ⟨(some 4), .move (.t 8), none⟩])
  .ret))⟩

/-- warehouseref1_SameRow, and what it calls. -/
structure F_warehouseref1_SameRow (P : Program) where
  id : FuncId
  warehouseref1_CompareRows : F_warehouseref1_CompareRows P
  has : Has P id [] (c_warehouseref1_SameRow warehouseref1_CompareRows.id)

/-- The code of warehouselaw1_ValueDecodes. -/
def c_warehouselaw1_ValueDecodes (f_warehouselaw1_known : FuncId) (f_warehouselaw1_row : FuncId) (f_warehouseref1_Encode : FuncId) (f_value_Decode : FuncId) (f_warehouseref1_Decode : FuncId) (f_warehouseref1_SameRow : FuncId) : AFunc := ⟨85, [.tmp 10],
  (.seq
  (.region [
    ⟨(some 10), .move (.c (.bool false)), none⟩])
  (.seq
  (.seq
  (.region [
    ⟨(some 21), .move (.t 0), none⟩,
    ⟨(some 22), .len (.t 21), none⟩,
    ⟨(some 23), .bin .gtr (.t 22) (.c (.int .i64 2000)), none⟩])
  (.cond (.t 23)
    (.seq
    (.region [
      ⟨(some 24), .call f_warehouselaw1_known [], none⟩,
      ⟨(some 10), .move (.t 24), none⟩])
    .ret)
    .skip))
  (.seq
  (.region [
    ⟨(some 26), .move (.t 1), none⟩,
    ⟨(some 27), .move (.t 2), none⟩,
    ⟨(some 28), .bin .and (.t 27) (.c (.int .i64 7)), none⟩,
    ⟨(some 29), .call f_warehouselaw1_row [(.t 26), (.t 28)], none⟩,
    ⟨(some 30), .call f_warehouseref1_Encode [(.t 29)], none⟩,
    ⟨(some 25), .move (.t 30), none⟩,
    ⟨(some 31), .extract (.t 25) 0, none⟩,
    ⟨(some 32), .extract (.t 25) 1, none⟩,
    ⟨(some 11), .move (.t 31), none⟩,
    ⟨(some 12), .move (.t 32), none⟩])
  (.seq
  (.seq
  (.region [
    ⟨(some 33), .move (.t 11), none⟩,
    ⟨(some 34), .move (.t 3), none⟩,
    ⟨(some 35), .bin .and (.t 34) (.c (.int .i64 65535)), none⟩,
    ⟨(some 36), .move (.t 11), none⟩,
    ⟨(some 37), .len (.t 36), none⟩,
    ⟨(some 38), .bin .rem (.t 35) (.t 37), none⟩,
    ⟨(some 39), .indexAddr 1 (.t 33) (.t 38), none⟩,
    ⟨(some 40), .load false 1 (.t 39), none⟩,
    ⟨(some 41), .move (.t 4), none⟩,
    ⟨(some 42), .bin .xor (.t 40) (.t 41), none⟩,
    ⟨(some 43), .indexAddr 1 (.t 33) (.t 38), none⟩,
    ⟨none, .store 1 (.t 43) (.t 42), none⟩])
  .ghost)
  (.seq
  (.region [
    ⟨(some 45), .move (.t 0), none⟩,
    ⟨(some 46), .call f_value_Decode [(.t 45)], none⟩,
    ⟨(some 44), .move (.t 46), none⟩,
    ⟨(some 47), .extract (.t 44) 0, none⟩,
    ⟨(some 48), .extract (.t 44) 1, none⟩,
    ⟨(some 13), .move (.t 47), none⟩,
    ⟨(some 14), .move (.t 48), none⟩])
  (.seq
  (.region [
    ⟨(some 50), .move (.t 0), none⟩,
    ⟨(some 51), .call f_warehouseref1_Decode [(.t 50)], none⟩,
    ⟨(some 49), .move (.t 51), none⟩,
    ⟨(some 52), .extract (.t 49) 0, none⟩,
    ⟨(some 53), .extract (.t 49) 1, none⟩,
    ⟨(some 15), .move (.t 52), none⟩,
    ⟨(some 16), .move (.t 53), none⟩])
  (.seq
  (.region [
    ⟨(some 55), .move (.t 11), none⟩,
    ⟨(some 56), .call f_value_Decode [(.t 55)], none⟩,
    ⟨(some 54), .move (.t 56), none⟩,
    ⟨(some 57), .extract (.t 54) 0, none⟩,
    ⟨(some 58), .extract (.t 54) 1, none⟩,
    ⟨(some 17), .move (.t 57), none⟩,
    ⟨(some 18), .move (.t 58), none⟩])
  (.seq
  (.region [
    ⟨(some 60), .move (.t 11), none⟩,
    ⟨(some 61), .call f_warehouseref1_Decode [(.t 60)], none⟩,
    ⟨(some 59), .move (.t 61), none⟩,
    ⟨(some 62), .extract (.t 59) 0, none⟩,
    ⟨(some 63), .extract (.t 59) 1, none⟩,
    ⟨(some 19), .move (.t 62), none⟩,
    ⟨(some 20), .move (.t 63), none⟩])
  (.seq
  (.region [
    ⟨(some 64), .move (.t 14), none⟩,
    ⟨(some 65), .move (.t 16), none⟩,
    ⟨(some 66), .bin .eql (.t 64) (.t 65), none⟩,
    ⟨(some 67), .move (.t 66), none⟩,
    ⟨(some 68), .move (.t 13), some (some 67, true)⟩,
    ⟨(some 69), .move (.t 15), some (some 67, true)⟩,
    ⟨(some 70), .call f_warehouseref1_SameRow [(.t 68), (.t 69)], some (some 67, true)⟩,
    ⟨(some 71), .pick (.t 67) (.t 70) (.c (.bool false)), none⟩,
    ⟨(some 72), .move (.t 71), none⟩,
    ⟨(some 73), .move (.t 18), some (some 72, true)⟩,
    ⟨(some 74), .move (.t 20), some (some 72, true)⟩,
    ⟨(some 75), .bin .eql (.t 73) (.t 74), some (some 72, true)⟩,
    ⟨(some 76), .pick (.t 72) (.t 75) (.c (.bool false)), none⟩,
    ⟨(some 77), .move (.t 76), none⟩,
    ⟨(some 78), .move (.t 17), some (some 77, true)⟩,
    ⟨(some 79), .move (.t 19), some (some 77, true)⟩,
    ⟨(some 80), .call f_warehouseref1_SameRow [(.t 78), (.t 79)], some (some 77, true)⟩,
    ⟨(some 81), .pick (.t 77) (.t 80) (.c (.bool false)), none⟩,
    ⟨(some 82), .move (.t 81), none⟩,
    ⟨(some 83), .call f_warehouselaw1_known [], some (some 82, true)⟩,
    ⟨(some 84), .pick (.t 82) (.t 83) (.c (.bool false)), none⟩,
    ⟨(some 10), .move (.t 84), none⟩])
  .ret)))))))))⟩

/-- warehouselaw1_ValueDecodes, and what it calls. -/
structure F_warehouselaw1_ValueDecodes (P : Program) where
  id : FuncId
  warehouselaw1_known : F_warehouselaw1_known P
  warehouselaw1_row : F_warehouselaw1_row P
  warehouseref1_Encode : F_warehouseref1_Encode P
  value_Decode : F_value_Decode P
  warehouseref1_Decode : F_warehouseref1_Decode P
  warehouseref1_SameRow : F_warehouseref1_SameRow P
  has : Has P id [100043] (c_warehouselaw1_ValueDecodes warehouselaw1_known.id warehouselaw1_row.id warehouseref1_Encode.id value_Decode.id warehouseref1_Decode.id warehouseref1_SameRow.id)

/-- The code of warehouselaw1_ValueRoundTrips. -/
def c_warehouselaw1_ValueRoundTrips (f_warehouselaw1_row : FuncId) (f_value_Encode : FuncId) (f_value_Decode : FuncId) (f_value_CompareRows : FuncId) (f_warehouselaw1_known : FuncId) : AFunc := ⟨91, [.tmp 6],
  (.seq
  (.region [
    ⟨(some 6), .move (.c (.bool false)), none⟩])
  (.seq
  (.region [
    ⟨(some 17), .move (.t 0), none⟩,
    ⟨(some 18), .move (.t 2), none⟩,
    ⟨(some 19), .bin .and (.t 18) (.c (.int .i64 7)), none⟩,
    ⟨(some 20), .call f_warehouselaw1_row [(.t 17), (.t 19)], none⟩,
    ⟨(some 21), .move (.t 1), none⟩,
    ⟨(some 22), .move (.t 2), none⟩,
    ⟨(some 23), .bin .shr (.t 22) (.c (.int .u64 3)), none⟩,
    ⟨(some 24), .bin .and (.t 23) (.c (.int .i64 7)), none⟩,
    ⟨(some 25), .call f_warehouselaw1_row [(.t 21), (.t 24)], none⟩,
    ⟨(some 7), .move (.t 20), none⟩,
    ⟨(some 8), .move (.t 25), none⟩])
  (.seq
  (.region [
    ⟨(some 27), .move (.t 7), none⟩,
    ⟨(some 28), .call f_value_Encode [(.t 27)], none⟩,
    ⟨(some 26), .move (.t 28), none⟩,
    ⟨(some 29), .extract (.t 26) 0, none⟩,
    ⟨(some 30), .extract (.t 26) 1, none⟩,
    ⟨(some 9), .move (.t 29), none⟩,
    ⟨(some 10), .move (.t 30), none⟩])
  (.seq
  (.region [
    ⟨(some 32), .move (.t 8), none⟩,
    ⟨(some 33), .call f_value_Encode [(.t 32)], none⟩,
    ⟨(some 31), .move (.t 33), none⟩,
    ⟨(some 34), .extract (.t 31) 0, none⟩,
    ⟨(some 35), .extract (.t 31) 1, none⟩,
    ⟨(some 11), .move (.t 34), none⟩,
    ⟨(some 12), .move (.t 35), none⟩])
  (.seq
  (.region [
    ⟨(some 37), .move (.t 9), none⟩,
    ⟨(some 38), .call f_value_Decode [(.t 37)], none⟩,
    ⟨(some 36), .move (.t 38), none⟩,
    ⟨(some 39), .extract (.t 36) 0, none⟩,
    ⟨(some 40), .extract (.t 36) 1, none⟩,
    ⟨(some 13), .move (.t 39), none⟩,
    ⟨(some 14), .move (.t 40), none⟩])
  (.seq
  (.seq
  (.region [
    ⟨(some 41), .move (.t 10), none⟩,
    ⟨(some 42), .bin .neq (.t 41) (.c (.int .i64 0)), none⟩,
    ⟨(some 43), .move (.t 42), none⟩,
    ⟨(some 44), .move (.t 12), some (some 43, false)⟩,
    ⟨(some 45), .bin .neq (.t 44) (.c (.int .i64 0)), some (some 43, false)⟩,
    ⟨(some 46), .pick (.t 43) (.c (.bool true)) (.t 45), none⟩,
    ⟨(some 47), .move (.t 46), none⟩,
    ⟨(some 48), .move (.t 14), some (some 47, false)⟩,
    ⟨(some 49), .bin .neq (.t 48) (.c (.int .i64 0)), some (some 47, false)⟩,
    ⟨(some 50), .pick (.t 47) (.c (.bool true)) (.t 49), none⟩,
    ⟨(some 51), .move (.t 50), none⟩,
    ⟨(some 52), .move (.t 13), some (some 51, false)⟩,
    ⟨(some 53), .move (.t 7), some (some 51, false)⟩,
    ⟨(some 54), .call f_value_CompareRows [(.t 52), (.t 53)], some (some 51, false)⟩,
    ⟨(some 55), .bin .neq (.t 54) (.c (.int .i64 0)), some (some 51, false)⟩,
    ⟨(some 56), .pick (.t 51) (.c (.bool true)) (.t 55), none⟩])
  (.cond (.t 56)
    (.seq
    (.region [
      ⟨(some 6), .move (.c (.bool false)), none⟩])
    .ret)
    .skip))
  (.seq
  (.region [
    ⟨(some 57), .move (.t 7), none⟩,
    ⟨(some 58), .move (.t 8), none⟩,
    ⟨(some 59), .call f_value_CompareRows [(.t 57), (.t 58)], none⟩,
    ⟨(some 60), .bin .eql (.t 59) (.c (.int .i64 0)), none⟩,
    ⟨(some 15), .move (.t 60), none⟩])
  (.seq
  (.draw [
    (⟨(some 61), .move (.t 9), none⟩, []),
    (⟨(some 62), .len (.t 61), none⟩, []),
    (⟨(some 63), .move (.t 11), none⟩, []),
    (⟨(some 64), .len (.t 63), none⟩, []),
    (⟨(some 65), .bin .leq (.t 62) (.t 64), none⟩, []),
    (⟨(some 66), .move (.t 65), none⟩, []),
    (⟨(some 67), .move (.t 11), some (some 66, true)⟩, []),
    (⟨(some 68), .move (.t 9), some (some 66, true)⟩, []),
    (⟨(some 69), .len (.t 68), some (some 66, true)⟩, []),
    (⟨(some 70), .slice 1 (.t 67) none (some (.t 69)), some (some 66, true)⟩, []),
    (⟨(some 71), .convBS (.t 70), some (some 66, true)⟩, []),
    (⟨(some 72), .move (.t 9), some (some 66, true)⟩, []),
    (⟨(some 73), .convBS (.t 72), some (some 66, true)⟩, []),
    (⟨(some 74), .bin .eql (.t 71) (.t 73), some (some 66, true)⟩, []),
    (⟨(some 75), .pick (.t 66) (.t 74) (.c (.bool false)), none⟩, []),
    (⟨(some 16), .move (.t 75), none⟩, [])])
  (.seq
  (.region [
    ⟨(some 76), .move (.t 15), none⟩,
    ⟨(some 77), .move (.t 9), none⟩,
    ⟨(some 78), .convBS (.t 77), none⟩,
    ⟨(some 79), .move (.t 11), none⟩,
    ⟨(some 80), .convBS (.t 79), none⟩,
    ⟨(some 81), .bin .eql (.t 78) (.t 80), none⟩,
    ⟨(some 82), .eqb false (.t 76) (.t 81), none⟩,
    ⟨(some 83), .move (.t 82), none⟩,
    ⟨(some 84), .move (.t 16), some (some 83, true)⟩,
    ⟨(some 85), .move (.t 15), some (some 83, true)⟩,
    ⟨(some 86), .eqb false (.t 84) (.t 85), some (some 83, true)⟩,
    ⟨(some 87), .pick (.t 83) (.t 86) (.c (.bool false)), none⟩,
    ⟨(some 88), .move (.t 87), none⟩,
    ⟨(some 89), .call f_warehouselaw1_known [], some (some 88, true)⟩,
    ⟨(some 90), .pick (.t 88) (.t 89) (.c (.bool false)), none⟩,
    ⟨(some 6), .move (.t 90), none⟩])
  .ret)))))))))⟩

/-- warehouselaw1_ValueRoundTrips, and what it calls. -/
structure F_warehouselaw1_ValueRoundTrips (P : Program) where
  id : FuncId
  warehouselaw1_row : F_warehouselaw1_row P
  value_Encode : F_value_Encode P
  value_Decode : F_value_Decode P
  value_CompareRows : F_value_CompareRows P
  warehouselaw1_known : F_warehouselaw1_known P
  has : Has P id [] (c_warehouselaw1_ValueRoundTrips warehouselaw1_row.id value_Encode.id value_Decode.id value_CompareRows.id warehouselaw1_known.id)

/-- The code of schema_IsName. -/
def c_schema_IsName : AFunc := ⟨41, [.tmp 2],
  (.seq
  (.region [
    ⟨(some 2), .move (.c (.bool false)), none⟩])
  (.seq
  (.seq
  (.region [
    ⟨(some 6), .move (.t 0), none⟩,
    ⟨(some 7), .lenS (.t 6), none⟩,
    ⟨(some 8), .bin .gtr (.t 7) (.c (.int .i64 24)), none⟩])
  (.cond (.t 8)
    (.seq
    (.region [
      ⟨(some 2), .move (.c (.bool false)), none⟩])
    .ret)
    .skip))
  (.seq
  (.seq
  (.region [
    ⟨(some 9), .move (.t 0), none⟩,
    ⟨(some 10), .range (.t 9), none⟩])
  (.block 0
    (.loop
      (.seq
      (.region [
        ⟨(some 11), .next (.t 10), none⟩,
        ⟨(some 12), .extract (.t 11) 0, none⟩])
      (.seq
      (.cond (.t 12)
        .skip
        (.exit 0))
      (.block 1
        (.seq
        (.region [
          ⟨(some 13), .extract (.t 11) 1, none⟩,
          ⟨(some 14), .extract (.t 11) 2, none⟩,
          ⟨(some 3), .move (.t 13), none⟩,
          ⟨(some 4), .move (.t 14), none⟩])
        (.seq
        (.region [
          ⟨(some 15), .move (.t 4), none⟩,
          ⟨(some 16), .bin .geq (.t 15) (.c (.int .i32 97)), none⟩,
          ⟨(some 17), .move (.t 16), none⟩,
          ⟨(some 18), .move (.t 4), some (some 17, true)⟩,
          ⟨(some 19), .bin .leq (.t 18) (.c (.int .i32 122)), some (some 17, true)⟩,
          ⟨(some 20), .pick (.t 17) (.t 19) (.c (.bool false)), none⟩,
          ⟨(some 5), .move (.t 20), none⟩])
        (.seq
        (.region [
          ⟨(some 21), .move (.t 5), none⟩,
          ⟨(some 22), .un .not (.t 21), none⟩,
          ⟨(some 23), .move (.t 22), none⟩,
          ⟨(some 24), .move (.t 3), some (some 23, true)⟩,
          ⟨(some 25), .bin .eql (.t 24) (.c (.int .i64 0)), some (some 23, true)⟩,
          ⟨(some 26), .move (.t 25), some (some 23, true)⟩,
          ⟨(some 27), .move (.t 4), some (some 26, false)⟩,
          ⟨(some 28), .bin .neq (.t 27) (.c (.int .i32 95)), some (some 26, false)⟩,
          ⟨(some 29), .move (.t 28), some (some 26, false)⟩,
          ⟨(some 30), .move (.t 4), some (some 29, true)⟩,
          ⟨(some 31), .bin .lss (.t 30) (.c (.int .i32 48)), some (some 29, true)⟩,
          ⟨(some 32), .move (.t 31), some (some 29, true)⟩,
          ⟨(some 33), .move (.t 4), some (some 32, false)⟩,
          ⟨(some 34), .bin .gtr (.t 33) (.c (.int .i32 57)), some (some 32, false)⟩,
          ⟨(some 35), .pick (.t 32) (.c (.bool true)) (.t 34), some (some 29, true)⟩,
          ⟨(some 36), .pick (.t 29) (.t 35) (.c (.bool false)), some (some 26, false)⟩,
          ⟨(some 37), .pick (.t 26) (.c (.bool true)) (.t 36), some (some 23, true)⟩,
          ⟨(some 38), .pick (.t 23) (.t 37) (.c (.bool false)), none⟩])
        (.cond (.t 38)
          (.seq
          (.region [
            ⟨(some 2), .move (.c (.bool false)), none⟩])
          .ret)
          .skip))))))))))
  (.seq
  (.region [
    ⟨(some 39), .move (.t 0), none⟩,
    ⟨(some 40), .bin .neq (.t 39) (.c (.str (bs []))), none⟩,
    ⟨(some 2), .move (.t 40), none⟩])
  .ret))))⟩

/-- schema_IsName, and what it calls. -/
structure F_schema_IsName (P : Program) where
  id : FuncId
  has : Has P id [] c_schema_IsName


/-- bytealg_IndexByteString. -/
structure F_bytealg_IndexByteString (P : Program) where
  id : FuncId
  has : HasX P id Extern.BytealgIndexByte.indexByte

/-- The code of stringslite_IndexByte. -/
def c_stringslite_IndexByte (f_bytealg_IndexByteString : FuncId) : AFunc := ⟨8, [.tmp 4],
  (.seq
  (.region [
    ⟨(some 4), .move (.c (.int .i64 0)), none⟩])
  (.seq
  (.region [
    ⟨(some 5), .move (.t 0), none⟩,
    ⟨(some 6), .move (.t 1), none⟩,
    ⟨(some 7), .call f_bytealg_IndexByteString [(.t 5), (.t 6)], none⟩,
    ⟨(some 4), .move (.t 7), none⟩])
  .ret))⟩

/-- stringslite_IndexByte, and what it calls. -/
structure F_stringslite_IndexByte (P : Program) where
  id : FuncId
  bytealg_IndexByteString : F_bytealg_IndexByteString P
  has : Has P id [] (c_stringslite_IndexByte bytealg_IndexByteString.id)

/-- The code of bytealg_hashStr_string. -/
def c_bytealg_hashStr_string : AFunc := ⟨39, [.tmp 2, .tmp 3],
  (.seq
  (.region [
    ⟨(some 2), .move (.c (.int .u32 0)), none⟩,
    ⟨(some 3), .move (.c (.int .u32 0)), none⟩])
  (.seq
  (.region [
    ⟨(some 4), .move (.c (.int .u32 0)), none⟩])
  (.seq
  (.seq
  (.region [
    ⟨(some 5), .move (.c (.int .i64 0)), none⟩])
  (.block 0
    (.loop
      (.seq
      (.seq
      (.region [
        ⟨(some 9), .move (.t 5), none⟩,
        ⟨(some 10), .move (.t 0), none⟩,
        ⟨(some 11), .lenS (.t 10), none⟩,
        ⟨(some 12), .bin .lss (.t 9) (.t 11), none⟩])
      (.cond (.t 12)
        .skip
        (.exit 0)))
      (.seq
      (.block 1
        (.region [
          ⟨(some 15), .move (.t 4), none⟩,
          ⟨(some 16), .bin .mul (.t 15) (.c (.int .u32 16777619)), none⟩,
          ⟨(some 17), .move (.t 0), none⟩,
          ⟨(some 18), .move (.t 5), none⟩,
          ⟨(some 19), .indexStr (.t 17) (.t 18), none⟩,
          ⟨(some 20), .conv .u32 (.t 19), none⟩,
          ⟨(some 21), .bin .add (.t 16) (.t 20), none⟩,
          ⟨(some 4), .move (.t 21), none⟩]))
      (.region [
        ⟨(some 13), .move (.t 5), none⟩,
        ⟨(some 14), .bin .add (.t 13) (.c (.int .i64 1)), none⟩,
        ⟨(some 5), .move (.t 14), none⟩]))))))
  (.seq
  (.region [
    ⟨(some 6), .move (.c (.int .u32 1)), none⟩,
    ⟨(some 7), .move (.c (.int .u32 16777619)), none⟩])
  (.seq
  (.seq
  (.region [
    ⟨(some 22), .move (.t 0), none⟩,
    ⟨(some 23), .lenS (.t 22), none⟩,
    ⟨(some 8), .move (.t 23), none⟩])
  (.block 2
    (.loop
      (.seq
      (.seq
      (.region [
        ⟨(some 24), .move (.t 8), none⟩,
        ⟨(some 25), .bin .gtr (.t 24) (.c (.int .i64 0)), none⟩])
      (.cond (.t 25)
        .skip
        (.exit 2)))
      (.seq
      (.block 3
        (.seq
        (.seq
        (.region [
          ⟨(some 28), .move (.t 8), none⟩,
          ⟨(some 29), .bin .and (.t 28) (.c (.int .i64 1)), none⟩,
          ⟨(some 30), .bin .neq (.t 29) (.c (.int .i64 0)), none⟩])
        (.cond (.t 30)
          (.region [
            ⟨(some 31), .move (.t 6), none⟩,
            ⟨(some 32), .move (.t 7), none⟩,
            ⟨(some 33), .bin .mul (.t 31) (.t 32), none⟩,
            ⟨(some 6), .move (.t 33), none⟩])
          .skip))
        (.region [
          ⟨(some 34), .move (.t 7), none⟩,
          ⟨(some 35), .move (.t 7), none⟩,
          ⟨(some 36), .bin .mul (.t 34) (.t 35), none⟩,
          ⟨(some 7), .move (.t 36), none⟩])))
      (.region [
        ⟨(some 26), .move (.t 8), none⟩,
        ⟨(some 27), .bin .shr (.t 26) (.c (.int .u64 1)), none⟩,
        ⟨(some 8), .move (.t 27), none⟩]))))))
  (.seq
  (.region [
    ⟨(some 37), .move (.t 4), none⟩,
    ⟨(some 38), .move (.t 6), none⟩,
    ⟨(some 2), .move (.t 37), none⟩,
    ⟨(some 3), .move (.t 38), none⟩])
  .ret))))))⟩

/-- bytealg_hashStr_string, and what it calls. -/
structure F_bytealg_hashStr_string (P : Program) where
  id : FuncId
  has : Has P id [] c_bytealg_hashStr_string

/-- The code of bytealg_IndexRabinKarp_string. -/
def c_bytealg_IndexRabinKarp_string (f_bytealg_hashStr_string : FuncId) : AFunc := ⟨81, [.tmp 4],
  (.seq
  (.region [
    ⟨(some 4), .move (.c (.int .i64 0)), none⟩])
  (.seq
  (.region [
    ⟨(some 12), .move (.t 1), none⟩,
    ⟨(some 13), .call f_bytealg_hashStr_string [(.t 12)], none⟩,
    ⟨(some 11), .move (.t 13), none⟩,
    ⟨(some 14), .extract (.t 11) 0, none⟩,
    ⟨(some 15), .extract (.t 11) 1, none⟩,
    ⟨(some 5), .move (.t 14), none⟩,
    ⟨(some 6), .move (.t 15), none⟩])
  (.seq
  (.region [
    ⟨(some 16), .move (.t 1), none⟩,
    ⟨(some 17), .lenS (.t 16), none⟩,
    ⟨(some 7), .move (.t 17), none⟩])
  (.seq
  (.region [
    ⟨(some 8), .move (.c (.int .u32 0)), none⟩])
  (.seq
  (.seq
  (.region [
    ⟨(some 9), .move (.c (.int .i64 0)), none⟩])
  (.block 0
    (.loop
      (.seq
      (.seq
      (.region [
        ⟨(some 18), .move (.t 9), none⟩,
        ⟨(some 19), .move (.t 7), none⟩,
        ⟨(some 20), .bin .lss (.t 18) (.t 19), none⟩])
      (.cond (.t 20)
        .skip
        (.exit 0)))
      (.seq
      (.block 1
        (.region [
          ⟨(some 23), .move (.t 8), none⟩,
          ⟨(some 24), .bin .mul (.t 23) (.c (.int .u32 16777619)), none⟩,
          ⟨(some 25), .move (.t 0), none⟩,
          ⟨(some 26), .move (.t 9), none⟩,
          ⟨(some 27), .indexStr (.t 25) (.t 26), none⟩,
          ⟨(some 28), .conv .u32 (.t 27), none⟩,
          ⟨(some 29), .bin .add (.t 24) (.t 28), none⟩,
          ⟨(some 8), .move (.t 29), none⟩]))
      (.region [
        ⟨(some 21), .move (.t 9), none⟩,
        ⟨(some 22), .bin .add (.t 21) (.c (.int .i64 1)), none⟩,
        ⟨(some 9), .move (.t 22), none⟩]))))))
  (.seq
  (.seq
  (.region [
    ⟨(some 30), .move (.t 8), none⟩,
    ⟨(some 31), .move (.t 5), none⟩,
    ⟨(some 32), .bin .eql (.t 30) (.t 31), none⟩,
    ⟨(some 33), .move (.t 32), none⟩,
    ⟨(some 34), .move (.t 0), some (some 33, true)⟩,
    ⟨(some 35), .move (.t 7), some (some 33, true)⟩,
    ⟨(some 36), .sliceStr (.t 34) none (some (.t 35)), some (some 33, true)⟩,
    ⟨(some 37), .move (.t 1), some (some 33, true)⟩,
    ⟨(some 38), .bin .eql (.t 36) (.t 37), some (some 33, true)⟩,
    ⟨(some 39), .pick (.t 33) (.t 38) (.c (.bool false)), none⟩])
  (.cond (.t 39)
    (.seq
    (.region [
      ⟨(some 4), .move (.c (.int .i64 0)), none⟩])
    .ret)
    .skip))
  (.seq
  (.seq
  (.region [
    ⟨(some 40), .move (.t 7), none⟩,
    ⟨(some 10), .move (.t 40), none⟩])
  (.block 2
    (.loop
      (.seq
      (.seq
      (.region [
        ⟨(some 41), .move (.t 10), none⟩,
        ⟨(some 42), .move (.t 0), none⟩,
        ⟨(some 43), .lenS (.t 42), none⟩,
        ⟨(some 44), .bin .lss (.t 41) (.t 43), none⟩])
      (.cond (.t 44)
        .skip
        (.exit 2)))
      (.block 3
        (.seq
        (.region [
          ⟨(some 45), .move (.t 8), none⟩,
          ⟨(some 46), .bin .mul (.t 45) (.c (.int .u32 16777619)), none⟩,
          ⟨(some 8), .move (.t 46), none⟩])
        (.seq
        (.region [
          ⟨(some 47), .move (.t 8), none⟩,
          ⟨(some 48), .move (.t 0), none⟩,
          ⟨(some 49), .move (.t 10), none⟩,
          ⟨(some 50), .indexStr (.t 48) (.t 49), none⟩,
          ⟨(some 51), .conv .u32 (.t 50), none⟩,
          ⟨(some 52), .bin .add (.t 47) (.t 51), none⟩,
          ⟨(some 8), .move (.t 52), none⟩])
        (.seq
        (.region [
          ⟨(some 53), .move (.t 8), none⟩,
          ⟨(some 54), .move (.t 6), none⟩,
          ⟨(some 55), .move (.t 0), none⟩,
          ⟨(some 56), .move (.t 10), none⟩,
          ⟨(some 57), .move (.t 7), none⟩,
          ⟨(some 58), .bin .sub (.t 56) (.t 57), none⟩,
          ⟨(some 59), .indexStr (.t 55) (.t 58), none⟩,
          ⟨(some 60), .conv .u32 (.t 59), none⟩,
          ⟨(some 61), .bin .mul (.t 54) (.t 60), none⟩,
          ⟨(some 62), .bin .sub (.t 53) (.t 61), none⟩,
          ⟨(some 8), .move (.t 62), none⟩])
        (.seq
        (.region [
          ⟨(some 63), .move (.t 10), none⟩,
          ⟨(some 64), .bin .add (.t 63) (.c (.int .i64 1)), none⟩,
          ⟨(some 10), .move (.t 64), none⟩])
        (.seq
        (.region [
          ⟨(some 65), .move (.t 8), none⟩,
          ⟨(some 66), .move (.t 5), none⟩,
          ⟨(some 67), .bin .eql (.t 65) (.t 66), none⟩,
          ⟨(some 68), .move (.t 67), none⟩,
          ⟨(some 69), .move (.t 0), some (some 68, true)⟩,
          ⟨(some 70), .move (.t 10), some (some 68, true)⟩,
          ⟨(some 71), .move (.t 7), some (some 68, true)⟩,
          ⟨(some 72), .bin .sub (.t 70) (.t 71), some (some 68, true)⟩,
          ⟨(some 73), .move (.t 10), some (some 68, true)⟩,
          ⟨(some 74), .sliceStr (.t 69) (some (.t 72)) (some (.t 73)), some (some 68, true)⟩,
          ⟨(some 75), .move (.t 1), some (some 68, true)⟩,
          ⟨(some 76), .bin .eql (.t 74) (.t 75), some (some 68, true)⟩,
          ⟨(some 77), .pick (.t 68) (.t 76) (.c (.bool false)), none⟩])
        (.cond (.t 77)
          (.seq
          (.region [
            ⟨(some 78), .move (.t 10), none⟩,
            ⟨(some 79), .move (.t 7), none⟩,
            ⟨(some 80), .bin .sub (.t 78) (.t 79), none⟩,
            ⟨(some 4), .move (.t 80), none⟩])
          .ret)
          .skip)))))))))))
  (.seq
  (.region [
    ⟨(some 4), .move (.c (.int .i64 (-1))), none⟩])
  .ret))))))))⟩

/-- bytealg_IndexRabinKarp_string, and what it calls. -/
structure F_bytealg_IndexRabinKarp_string (P : Program) where
  id : FuncId
  bytealg_hashStr_string : F_bytealg_hashStr_string P
  has : Has P id [] (c_bytealg_IndexRabinKarp_string bytealg_hashStr_string.id)

/-- The code of stringslite_Index. -/
def c_stringslite_Index (f_stringslite_IndexByte : FuncId) (f_bytealg_IndexString : FuncId) (f_bytealg_IndexRabinKarp_string : FuncId) : AFunc := ⟨143, [.tmp 4],
  (.seq
  (.region [
    ⟨(some 4), .move (.c (.int .i64 0)), none⟩])
  (.seq
  (.region [
    ⟨(some 14), .move (.t 1), none⟩,
    ⟨(some 15), .lenS (.t 14), none⟩,
    ⟨(some 5), .move (.t 15), none⟩])
  (.seq
  (.block 0
    (.seq
    (.region [
      ⟨(some 17), .move (.t 5), none⟩,
      ⟨(some 18), .bin .eql (.t 17) (.c (.int .i64 0)), none⟩,
      ⟨(some 19), .move (.t 18), none⟩,
      ⟨(some 20), .move (.t 1), some (some 19, false)⟩,
      ⟨(some 21), .move (.t 0), some (some 19, false)⟩,
      ⟨(some 22), .bin .eql (.t 20) (.t 21), some (some 19, false)⟩,
      ⟨(some 23), .pick (.t 19) (.c (.bool true)) (.t 22), none⟩,
      ⟨(some 16), .move (.t 23), none⟩])
    (.cond (.t 16)
      (.seq
      (.region [
        ⟨(some 4), .move (.c (.int .i64 0)), none⟩])
      .ret)
      (.seq
      (.region [
        ⟨(some 25), .move (.t 5), none⟩,
        ⟨(some 26), .bin .eql (.t 25) (.c (.int .i64 1)), none⟩,
        ⟨(some 24), .move (.t 26), none⟩])
      (.cond (.t 24)
        (.seq
        (.region [
          ⟨(some 27), .move (.t 0), none⟩,
          ⟨(some 28), .move (.t 1), none⟩,
          ⟨(some 29), .indexStr (.t 28) (.c (.int .i64 0)), none⟩,
          ⟨(some 30), .call f_stringslite_IndexByte [(.t 27), (.t 29)], none⟩,
          ⟨(some 4), .move (.t 30), none⟩])
        .ret)
        (.seq
        (.region [
          ⟨(some 32), .move (.t 5), none⟩,
          ⟨(some 33), .move (.t 0), none⟩,
          ⟨(some 34), .lenS (.t 33), none⟩,
          ⟨(some 35), .bin .geq (.t 32) (.t 34), none⟩,
          ⟨(some 31), .move (.t 35), none⟩])
        (.cond (.t 31)
          (.seq
          (.region [
            ⟨(some 4), .move (.c (.int .i64 (-1))), none⟩])
          .ret)
          (.seq
          .stuck
          (.cond (.t 36)
            (.seq
            (.region [
              ⟨(some 45), .move (.t 0), none⟩,
              ⟨(some 46), .move (.t 1), none⟩,
              ⟨(some 47), .call f_bytealg_IndexString [(.t 45), (.t 46)], none⟩,
              ⟨(some 4), .move (.t 47), none⟩])
            .ret)
            .skip)))))))))
  (.seq
  (.region [
    ⟨(some 48), .move (.t 1), none⟩,
    ⟨(some 49), .indexStr (.t 48) (.c (.int .i64 0)), none⟩,
    ⟨(some 6), .move (.t 49), none⟩])
  (.seq
  (.region [
    ⟨(some 50), .move (.t 1), none⟩,
    ⟨(some 51), .indexStr (.t 50) (.c (.int .i64 1)), none⟩,
    ⟨(some 7), .move (.t 51), none⟩])
  (.seq
  (.region [
    ⟨(some 8), .move (.c (.int .i64 0)), none⟩])
  (.seq
  (.region [
    ⟨(some 52), .move (.t 0), none⟩,
    ⟨(some 53), .lenS (.t 52), none⟩,
    ⟨(some 54), .move (.t 5), none⟩,
    ⟨(some 55), .bin .sub (.t 53) (.t 54), none⟩,
    ⟨(some 56), .bin .add (.t 55) (.c (.int .i64 1)), none⟩,
    ⟨(some 9), .move (.t 56), none⟩])
  (.seq
  (.region [
    ⟨(some 10), .move (.c (.int .i64 0)), none⟩])
  (.seq
  (.block 1
    (.loop
      (.seq
      (.seq
      (.region [
        ⟨(some 57), .move (.t 8), none⟩,
        ⟨(some 58), .move (.t 9), none⟩,
        ⟨(some 59), .bin .lss (.t 57) (.t 58), none⟩])
      (.cond (.t 59)
        .skip
        (.exit 1)))
      (.block 2
        (.seq
        (.seq
        (.region [
          ⟨(some 60), .move (.t 0), none⟩,
          ⟨(some 61), .move (.t 8), none⟩,
          ⟨(some 62), .indexStr (.t 60) (.t 61), none⟩,
          ⟨(some 63), .move (.t 6), none⟩,
          ⟨(some 64), .bin .neq (.t 62) (.t 63), none⟩])
        (.cond (.t 64)
          (.seq
          (.region [
            ⟨(some 65), .move (.t 0), none⟩,
            ⟨(some 66), .move (.t 8), none⟩,
            ⟨(some 67), .bin .add (.t 66) (.c (.int .i64 1)), none⟩,
            ⟨(some 68), .move (.t 9), none⟩,
            ⟨(some 69), .sliceStr (.t 65) (some (.t 67)) (some (.t 68)), none⟩,
            ⟨(some 70), .move (.t 6), none⟩,
            ⟨(some 71), .call f_stringslite_IndexByte [(.t 69), (.t 70)], none⟩,
            ⟨(some 11), .move (.t 71), none⟩])
          (.seq
          (.seq
          (.region [
            ⟨(some 72), .move (.t 11), none⟩,
            ⟨(some 73), .bin .lss (.t 72) (.c (.int .i64 0)), none⟩])
          (.cond (.t 73)
            (.seq
            (.region [
              ⟨(some 4), .move (.c (.int .i64 (-1))), none⟩])
            .ret)
            .skip))
          (.region [
            ⟨(some 74), .move (.t 8), none⟩,
            ⟨(some 75), .move (.t 11), none⟩,
            ⟨(some 76), .bin .add (.t 75) (.c (.int .i64 1)), none⟩,
            ⟨(some 77), .bin .add (.t 74) (.t 76), none⟩,
            ⟨(some 8), .move (.t 77), none⟩])))
          .skip))
        (.seq
        (.seq
        (.region [
          ⟨(some 78), .move (.t 0), none⟩,
          ⟨(some 79), .move (.t 8), none⟩,
          ⟨(some 80), .bin .add (.t 79) (.c (.int .i64 1)), none⟩,
          ⟨(some 81), .indexStr (.t 78) (.t 80), none⟩,
          ⟨(some 82), .move (.t 7), none⟩,
          ⟨(some 83), .bin .eql (.t 81) (.t 82), none⟩,
          ⟨(some 84), .move (.t 83), none⟩,
          ⟨(some 85), .move (.t 0), some (some 84, true)⟩,
          ⟨(some 86), .move (.t 8), some (some 84, true)⟩,
          ⟨(some 87), .move (.t 8), some (some 84, true)⟩,
          ⟨(some 88), .move (.t 5), some (some 84, true)⟩,
          ⟨(some 89), .bin .add (.t 87) (.t 88), some (some 84, true)⟩,
          ⟨(some 90), .sliceStr (.t 85) (some (.t 86)) (some (.t 89)), some (some 84, true)⟩,
          ⟨(some 91), .move (.t 1), some (some 84, true)⟩,
          ⟨(some 92), .bin .eql (.t 90) (.t 91), some (some 84, true)⟩,
          ⟨(some 93), .pick (.t 84) (.t 92) (.c (.bool false)), none⟩])
        (.cond (.t 93)
          (.seq
          (.region [
            ⟨(some 94), .move (.t 8), none⟩,
            ⟨(some 4), .move (.t 94), none⟩])
          .ret)
          .skip))
        (.seq
        (.region [
          ⟨(some 95), .move (.t 8), none⟩,
          ⟨(some 96), .bin .add (.t 95) (.c (.int .i64 1)), none⟩,
          ⟨(some 8), .move (.t 96), none⟩])
        (.seq
        (.region [
          ⟨(some 97), .move (.t 10), none⟩,
          ⟨(some 98), .bin .add (.t 97) (.c (.int .i64 1)), none⟩,
          ⟨(some 10), .move (.t 98), none⟩])
        (.seq
        .stuck
        (.cond (.t 107)
          (.seq
          (.region [
            ⟨(some 108), .move (.t 0), none⟩,
            ⟨(some 109), .move (.t 8), none⟩,
            ⟨(some 110), .sliceStr (.t 108) (some (.t 109)) none, none⟩,
            ⟨(some 111), .move (.t 1), none⟩,
            ⟨(some 112), .call f_bytealg_IndexString [(.t 110), (.t 111)], none⟩,
            ⟨(some 12), .move (.t 112), none⟩])
          (.seq
          (.seq
          (.region [
            ⟨(some 113), .move (.t 12), none⟩,
            ⟨(some 114), .bin .geq (.t 113) (.c (.int .i64 0)), none⟩])
          (.cond (.t 114)
            (.seq
            (.region [
              ⟨(some 115), .move (.t 12), none⟩,
              ⟨(some 116), .move (.t 8), none⟩,
              ⟨(some 117), .bin .add (.t 115) (.t 116), none⟩,
              ⟨(some 4), .move (.t 117), none⟩])
            .ret)
            .skip))
          (.seq
          (.region [
            ⟨(some 4), .move (.c (.int .i64 (-1))), none⟩])
          .ret)))
          (.seq
          .stuck
          (.cond (.t 132)
            (.seq
            (.region [
              ⟨(some 133), .move (.t 0), none⟩,
              ⟨(some 134), .move (.t 8), none⟩,
              ⟨(some 135), .sliceStr (.t 133) (some (.t 134)) none, none⟩,
              ⟨(some 136), .move (.t 1), none⟩,
              ⟨(some 137), .call f_bytealg_IndexRabinKarp_string [(.t 135), (.t 136)], none⟩,
              ⟨(some 13), .move (.t 137), none⟩])
            (.seq
            (.seq
            (.region [
              ⟨(some 138), .move (.t 13), none⟩,
              ⟨(some 139), .bin .lss (.t 138) (.c (.int .i64 0)), none⟩])
            (.cond (.t 139)
              (.seq
              (.region [
                ⟨(some 4), .move (.c (.int .i64 (-1))), none⟩])
              .ret)
              .skip))
            (.seq
            (.region [
              ⟨(some 140), .move (.t 8), none⟩,
              ⟨(some 141), .move (.t 13), none⟩,
              ⟨(some 142), .bin .add (.t 140) (.t 141), none⟩,
              ⟨(some 4), .move (.t 142), none⟩])
            .ret)))
            .skip))))))))))))
  (.seq
  (.region [
    ⟨(some 4), .move (.c (.int .i64 (-1))), none⟩])
  .ret))))))))))⟩

/-- stringslite_Index, and what it calls. -/
structure F_stringslite_Index (P : Program) where
  id : FuncId
  stringslite_IndexByte : F_stringslite_IndexByte P
  bytealg_IndexString : FuncId
  bytealg_IndexRabinKarp_string : F_bytealg_IndexRabinKarp_string P
  has : Has P id [] (c_stringslite_Index stringslite_IndexByte.id bytealg_IndexString bytealg_IndexRabinKarp_string.id)

/-- The code of stringslite_Cut. -/
def c_stringslite_Cut (f_stringslite_Index : FuncId) : AFunc := ⟨23, [.tmp 4, .tmp 5, .tmp 6],
  (.seq
  (.region [
    ⟨(some 4), .move (.c (.str (bs []))), none⟩,
    ⟨(some 5), .move (.c (.str (bs []))), none⟩,
    ⟨(some 6), .move (.c (.bool false)), none⟩])
  (.seq
  (.seq
  (.region [
    ⟨(some 8), .move (.t 0), none⟩,
    ⟨(some 9), .move (.t 1), none⟩,
    ⟨(some 10), .call f_stringslite_Index [(.t 8), (.t 9)], none⟩,
    ⟨(some 7), .move (.t 10), none⟩])
  (.seq
  (.region [
    ⟨(some 11), .move (.t 7), none⟩,
    ⟨(some 12), .bin .geq (.t 11) (.c (.int .i64 0)), none⟩])
  (.cond (.t 12)
    (.seq
    (.draw [
      (⟨(some 13), .move (.t 0), none⟩, []),
      (⟨(some 14), .move (.t 7), none⟩, []),
      (⟨(some 15), .sliceStr (.t 13) none (some (.t 14)), none⟩, []),
      (⟨(some 16), .move (.t 0), none⟩, []),
      (⟨(some 17), .move (.t 7), none⟩, []),
      (⟨(some 18), .move (.t 1), none⟩, []),
      (⟨(some 19), .lenS (.t 18), none⟩, []),
      (⟨(some 20), .bin .add (.t 17) (.t 19), none⟩, []),
      (⟨(some 21), .sliceStr (.t 16) (some (.t 20)) none, none⟩, []),
      (⟨(some 4), .move (.t 15), none⟩, []),
      (⟨(some 5), .move (.t 21), none⟩, []),
      (⟨(some 6), .move (.c (.bool true)), none⟩, [])])
    .ret)
    .skip)))
  (.seq
  (.region [
    ⟨(some 22), .move (.t 0), none⟩,
    ⟨(some 4), .move (.t 22), none⟩,
    ⟨(some 5), .move (.c (.str (bs []))), none⟩,
    ⟨(some 6), .move (.c (.bool false)), none⟩])
  .ret)))⟩

/-- stringslite_Cut, and what it calls. -/
structure F_stringslite_Cut (P : Program) where
  id : FuncId
  stringslite_Index : F_stringslite_Index P
  has : Has P id [] (c_stringslite_Cut stringslite_Index.id)

/-- The code of strings_Cut. -/
def c_strings_Cut (f_stringslite_Cut : FuncId) : AFunc := ⟨13, [.tmp 4, .tmp 5, .tmp 6],
  (.seq
  (.region [
    ⟨(some 4), .move (.c (.str (bs []))), none⟩,
    ⟨(some 5), .move (.c (.str (bs []))), none⟩,
    ⟨(some 6), .move (.c (.bool false)), none⟩])
  (.seq
  (.region [
    ⟨(some 7), .move (.t 0), none⟩,
    ⟨(some 8), .move (.t 1), none⟩,
    ⟨(some 9), .call f_stringslite_Cut [(.t 7), (.t 8)], none⟩,
    ⟨(some 10), .extract (.t 9) 0, none⟩,
    ⟨(some 11), .extract (.t 9) 1, none⟩,
    ⟨(some 12), .extract (.t 9) 2, none⟩,
    ⟨(some 4), .move (.t 10), none⟩,
    ⟨(some 5), .move (.t 11), none⟩,
    ⟨(some 6), .move (.t 12), none⟩])
  .ret))⟩

/-- strings_Cut, and what it calls. -/
structure F_strings_Cut (P : Program) where
  id : FuncId
  stringslite_Cut : F_stringslite_Cut P
  has : Has P id [] (c_strings_Cut stringslite_Cut.id)

/-- The code of schema_IsQualified. -/
def c_schema_IsQualified (f_strings_Cut : FuncId) (f_schema_IsName : FuncId) : AFunc := ⟨22, [.tmp 2],
  (.seq
  (.region [
    ⟨(some 2), .move (.c (.bool false)), none⟩])
  (.seq
  (.region [
    ⟨(some 7), .move (.t 0), none⟩,
    ⟨(some 8), .call f_strings_Cut [(.t 7), (.c (.str (bs [46])))], none⟩,
    ⟨(some 6), .move (.t 8), none⟩,
    ⟨(some 9), .extract (.t 6) 0, none⟩,
    ⟨(some 10), .extract (.t 6) 1, none⟩,
    ⟨(some 11), .extract (.t 6) 2, none⟩,
    ⟨(some 3), .move (.t 9), none⟩,
    ⟨(some 4), .move (.t 10), none⟩,
    ⟨(some 5), .move (.t 11), none⟩])
  (.seq
  (.region [
    ⟨(some 12), .move (.t 3), none⟩,
    ⟨(some 13), .call f_schema_IsName [(.t 12)], none⟩,
    ⟨(some 14), .move (.t 13), none⟩,
    ⟨(some 15), .move (.t 5), some (some 14, true)⟩,
    ⟨(some 16), .un .not (.t 15), some (some 14, true)⟩,
    ⟨(some 17), .move (.t 16), some (some 14, true)⟩,
    ⟨(some 18), .move (.t 4), some (some 17, false)⟩,
    ⟨(some 19), .call f_schema_IsName [(.t 18)], some (some 17, false)⟩,
    ⟨(some 20), .pick (.t 17) (.c (.bool true)) (.t 19), some (some 14, true)⟩,
    ⟨(some 21), .pick (.t 14) (.t 20) (.c (.bool false)), none⟩,
    ⟨(some 2), .move (.t 21), none⟩])
  .ret)))⟩

/-- schema_IsQualified, and what it calls. -/
structure F_schema_IsQualified (P : Program) where
  id : FuncId
  strings_Cut : F_strings_Cut P
  schema_IsName : F_schema_IsName P
  has : Has P id [] (c_schema_IsQualified strings_Cut.id schema_IsName.id)

/-- The code of schema_CheckRow. -/
def c_schema_CheckRow (f_value_Valid : FuncId) : AFunc := ⟨48, [.tmp 4],
  (.seq
  (.region [
    ⟨(some 4), .move (.c (.int .i64 0)), none⟩])
  (.seq
  (.seq
  (.region [
    ⟨(some 8), .move (.t 1), none⟩,
    ⟨(some 9), .len (.t 8), none⟩,
    ⟨(some 10), .move (.t 0), none⟩,
    ⟨(some 11), .len (.t 10), none⟩,
    ⟨(some 12), .bin .neq (.t 9) (.t 11), none⟩])
  (.cond (.t 12)
    (.seq
    (.region [
      ⟨(some 4), .move (.c (.int .i64 8)), none⟩])
    .ret)
    .skip))
  (.seq
  (.seq
  (.region [
    ⟨(some 13), .move (.t 1), none⟩,
    ⟨(some 14), .len (.t 13), none⟩,
    ⟨(some 15), .move (.c (.int .i64 0)), none⟩])
  (.block 0
    (.loop
      (.seq
      (.region [
        ⟨(some 16), .bin .lss (.t 15) (.t 14), none⟩])
      (.seq
      (.cond (.t 16)
        .skip
        (.exit 0))
      (.seq
      (.block 1
        (.seq
        (.region [
          ⟨(some 17), .move (.t 15), none⟩,
          ⟨(some 18), .indexAddr 3 (.t 13) (.t 15), none⟩,
          ⟨(some 19), .load true 3 (.t 18), none⟩,
          ⟨(some 6), .alloc [(.int .i64 0), (.int .i64 0), (.str (bs []))], none⟩,
          ⟨(some 5), .move (.t 17), none⟩,
          ⟨none, .store 3 (.t 6) (.t 19), none⟩])
        (.seq
        (.region [
          ⟨(some 20), .move (.t 0), none⟩,
          ⟨(some 21), .move (.t 5), none⟩,
          ⟨(some 22), .indexAddr 3 (.t 20) (.t 21), none⟩,
          ⟨(some 23), .load true 3 (.t 22), none⟩,
          ⟨(some 7), .alloc [(.str (bs [])), (.int .i64 0), (.bool false)], none⟩,
          ⟨none, .store 3 (.t 7) (.t 23), none⟩])
        (.block 2
          (.seq
          (.region [
            ⟨(some 25), .load true 3 (.t 6), none⟩,
            ⟨(some 26), .call f_value_Valid [(.t 25)], none⟩,
            ⟨(some 27), .un .not (.t 26), none⟩,
            ⟨(some 24), .move (.t 27), none⟩])
          (.cond (.t 24)
            (.seq
            (.region [
              ⟨(some 4), .move (.c (.int .i64 8)), none⟩])
            .ret)
            (.seq
            (.seq
            (.region [
              ⟨(some 29), .fieldAddr 0 (.t 6), none⟩,
              ⟨(some 30), .load false 1 (.t 29), none⟩,
              ⟨(some 31), .bin .eql (.t 30) (.c (.int .i64 0)), none⟩,
              ⟨(some 32), .move (.t 31), none⟩,
              ⟨(some 33), .fieldAddr 2 (.t 7), some (some 32, true)⟩,
              ⟨(some 34), .load false 1 (.t 33), some (some 32, true)⟩,
              ⟨(some 35), .un .not (.t 34), some (some 32, true)⟩,
              ⟨(some 36), .pick (.t 32) (.t 35) (.c (.bool false)), none⟩,
              ⟨(some 28), .move (.t 36), none⟩])
            (.cond (.t 28)
              .skip
              (.region [
                ⟨(some 37), .fieldAddr 0 (.t 6), none⟩,
                ⟨(some 38), .load false 1 (.t 37), none⟩,
                ⟨(some 39), .bin .neq (.t 38) (.c (.int .i64 0)), none⟩,
                ⟨(some 40), .move (.t 39), none⟩,
                ⟨(some 41), .fieldAddr 0 (.t 6), some (some 40, true)⟩,
                ⟨(some 42), .load false 1 (.t 41), some (some 40, true)⟩,
                ⟨(some 43), .fieldAddr 1 (.t 7), some (some 40, true)⟩,
                ⟨(some 44), .load false 1 (.t 43), some (some 40, true)⟩,
                ⟨(some 45), .bin .neq (.t 42) (.t 44), some (some 40, true)⟩,
                ⟨(some 46), .pick (.t 40) (.t 45) (.c (.bool false)), none⟩,
                ⟨(some 28), .move (.t 46), none⟩])))
            (.cond (.t 28)
              (.seq
              (.region [
                ⟨(some 4), .move (.c (.int .i64 7)), none⟩])
              .ret)
              .skip))))))))
      (.region [
        ⟨(some 47), .bin .add (.t 15) (.c (.int .i64 1)), none⟩,
        ⟨(some 15), .move (.t 47), none⟩])))))))
  (.seq
  (.region [
    ⟨(some 4), .move (.c (.int .i64 0)), none⟩])
  .ret))))⟩

/-- schema_CheckRow, and what it calls. -/
structure F_schema_CheckRow (P : Program) where
  id : FuncId
  value_Valid : F_value_Valid P
  has : Has P id [] (c_schema_CheckRow value_Valid.id)

/-- The code of schema_Index_1. -/
def c_schema_Index_1 : AFunc := ⟨8, [.tmp 3],
  (.seq
  (.region [
    ⟨(some 2), .box (.t 0), none⟩,
    ⟨(some 3), .move (.c (.bool false)), none⟩])
  (.seq
  (.region [
    ⟨(some 4), .fieldAddr 0 (.t 2), none⟩,
    ⟨(some 5), .load false 1 (.t 4), none⟩,
    ⟨(some 6), .load false 1 (.t 1), none⟩,
    ⟨(some 7), .bin .eql (.t 5) (.t 6), none⟩,
    ⟨(some 3), .move (.t 7), none⟩])
  .ret))⟩

/-- schema_Index_1, and what it calls. -/
structure F_schema_Index_1 (P : Program) where
  id : FuncId
  has : Has P id [] c_schema_Index_1

/-- The code of slices_IndexFunc_LColumn_Column. -/
def c_slices_IndexFunc_LColumn_Column : AFunc := ⟨19, [.tmp 4],
  (.seq
  (.region [
    ⟨(some 4), .move (.c (.int .i64 0)), none⟩])
  (.seq
  (.seq
  (.region [
    ⟨(some 6), .move (.t 0), none⟩,
    ⟨(some 7), .len (.t 6), none⟩,
    ⟨(some 8), .move (.c (.int .i64 0)), none⟩])
  (.block 0
    (.loop
      (.seq
      (.region [
        ⟨(some 9), .bin .lss (.t 8) (.t 7), none⟩])
      (.seq
      (.cond (.t 9)
        .skip
        (.exit 0))
      (.seq
      (.block 1
        (.seq
        (.region [
          ⟨(some 10), .move (.t 8), none⟩,
          ⟨(some 5), .move (.t 10), none⟩])
        (.seq
        (.region [
          ⟨(some 11), .move (.t 1), none⟩,
          ⟨(some 12), .move (.t 0), none⟩,
          ⟨(some 13), .move (.t 5), none⟩,
          ⟨(some 14), .indexAddr 3 (.t 12) (.t 13), none⟩,
          ⟨(some 15), .load true 3 (.t 14), none⟩,
          ⟨(some 16), .callv (.t 11) [(.t 15)], none⟩])
        (.cond (.t 16)
          (.seq
          (.region [
            ⟨(some 17), .move (.t 5), none⟩,
            ⟨(some 4), .move (.t 17), none⟩])
          .ret)
          .skip))))
      (.region [
        ⟨(some 18), .bin .add (.t 8) (.c (.int .i64 1)), none⟩,
        ⟨(some 8), .move (.t 18), none⟩])))))))
  (.seq
  (.region [
    ⟨(some 4), .move (.c (.int .i64 (-1))), none⟩])
  .ret)))⟩

/-- slices_IndexFunc_LColumn_Column, and what it calls. -/
structure F_slices_IndexFunc_LColumn_Column (P : Program) where
  id : FuncId
  has : Has P id [] c_slices_IndexFunc_LColumn_Column

/-- The code of schema_Index. -/
def c_schema_Index (f_schema_Index_1 : FuncId) (f_slices_IndexFunc_LColumn_Column : FuncId) : AFunc := ⟨8, [.tmp 4],
  (.seq
  (.region [
    ⟨(some 3), .box (.t 1), none⟩,
    ⟨(some 4), .move (.c (.int .i64 0)), none⟩])
  (.seq
  (.region [
    ⟨(some 5), .move (.t 0), none⟩,
    ⟨(some 6), .makeFunc f_schema_Index_1 [(.t 3)], none⟩,
    ⟨(some 7), .call f_slices_IndexFunc_LColumn_Column [(.t 5), (.t 6)], none⟩,
    ⟨(some 4), .move (.t 7), none⟩])
  .ret))⟩

/-- schema_Index, and what it calls. -/
structure F_schema_Index (P : Program) where
  id : FuncId
  schema_Index_1 : F_schema_Index_1 P
  slices_IndexFunc_LColumn_Column : F_slices_IndexFunc_LColumn_Column P
  has : Has P id [] (c_schema_Index schema_Index_1.id slices_IndexFunc_LColumn_Column.id)

/-- The code of warehouselaw5_known. -/
def c_warehouselaw5_known (f_schema_IsName : FuncId) (f_schema_IsQualified : FuncId) (f_schema_CheckRow : FuncId) (f_schema_Index : FuncId) : AFunc := ⟨38, [.tmp 0],
  (.seq
  (.region [
    ⟨(some 0), .move (.c (.bool false)), none⟩])
  (.seq
  (.region [
    ⟨(some 2), .build [(.str (bs [])), (.int .i64 0), (.bool false)] [(0, 1, (.c (.str (bs [97])))), (1, 1, (.c (.int .i64 2)))], none⟩,
    ⟨(some 3), .buildSlice 3 1 [(.str (bs [])), (.int .i64 0), (.bool false)] [(0, (.t 2))], none⟩,
    ⟨(some 1), .move (.t 3), none⟩])
  (.seq
  (.region [
    ⟨(some 4), .call f_schema_IsName [(.c (.str (bs [97, 95, 49])))], none⟩,
    ⟨(some 5), .move (.t 4), none⟩,
    ⟨(some 6), .call f_schema_IsName [(.c (.str (bs [49, 97])))], some (some 5, true)⟩,
    ⟨(some 7), .un .not (.t 6), some (some 5, true)⟩,
    ⟨(some 8), .pick (.t 5) (.t 7) (.c (.bool false)), none⟩,
    ⟨(some 9), .move (.t 8), none⟩,
    ⟨(some 10), .call f_schema_IsQualified [(.c (.str (bs [99, 111, 114, 101, 46, 97])))], some (some 9, true)⟩,
    ⟨(some 11), .pick (.t 9) (.t 10) (.c (.bool false)), none⟩,
    ⟨(some 12), .move (.t 11), none⟩,
    ⟨(some 13), .call f_schema_IsQualified [(.c (.str (bs [97, 46, 98, 46, 99])))], some (some 12, true)⟩,
    ⟨(some 14), .un .not (.t 13), some (some 12, true)⟩,
    ⟨(some 15), .pick (.t 12) (.t 14) (.c (.bool false)), none⟩,
    ⟨(some 16), .move (.t 15), none⟩,
    ⟨(some 17), .move (.t 1), some (some 16, true)⟩,
    ⟨(some 18), .build [(.int .i64 0), (.int .i64 0), (.str (bs []))] [], some (some 16, true)⟩,
    ⟨(some 19), .buildSlice 3 1 [(.int .i64 0), (.int .i64 0), (.str (bs []))] [(0, (.t 18))], some (some 16, true)⟩,
    ⟨(some 20), .call f_schema_CheckRow [(.t 17), (.t 19)], some (some 16, true)⟩,
    ⟨(some 21), .bin .eql (.t 20) (.c (.int .i64 7)), some (some 16, true)⟩,
    ⟨(some 22), .pick (.t 16) (.t 21) (.c (.bool false)), none⟩,
    ⟨(some 23), .move (.t 22), none⟩,
    ⟨(some 24), .move (.t 1), some (some 23, true)⟩,
    ⟨(some 25), .call f_schema_CheckRow [(.t 24), (.c .nil)], some (some 23, true)⟩,
    ⟨(some 26), .bin .eql (.t 25) (.c (.int .i64 8)), some (some 23, true)⟩,
    ⟨(some 27), .pick (.t 23) (.t 26) (.c (.bool false)), none⟩,
    ⟨(some 28), .move (.t 27), none⟩,
    ⟨(some 29), .move (.t 1), some (some 28, true)⟩,
    ⟨(some 30), .call f_schema_Index [(.t 29), (.c (.str (bs [97])))], some (some 28, true)⟩,
    ⟨(some 31), .bin .eql (.t 30) (.c (.int .i64 0)), some (some 28, true)⟩,
    ⟨(some 32), .pick (.t 28) (.t 31) (.c (.bool false)), none⟩,
    ⟨(some 33), .move (.t 32), none⟩,
    ⟨(some 34), .move (.t 1), some (some 33, true)⟩,
    ⟨(some 35), .call f_schema_Index [(.t 34), (.c (.str (bs [98])))], some (some 33, true)⟩,
    ⟨(some 36), .bin .eql (.t 35) (.c (.int .i64 (-1))), some (some 33, true)⟩,
    ⟨(some 37), .pick (.t 33) (.t 36) (.c (.bool false)), none⟩,
    ⟨(some 0), .move (.t 37), none⟩])
  .ret)))⟩

/-- warehouselaw5_known, and what it calls. -/
structure F_warehouselaw5_known (P : Program) where
  id : FuncId
  schema_IsName : F_schema_IsName P
  schema_IsQualified : F_schema_IsQualified P
  schema_CheckRow : F_schema_CheckRow P
  schema_Index : F_schema_Index P
  has : Has P id [] (c_warehouselaw5_known schema_IsName.id schema_IsQualified.id schema_CheckRow.id schema_Index.id)

/-- The code of warehouseref5_IsName. -/
def c_warehouseref5_IsName : AFunc := ⟨58, [.tmp 2],
  (.seq
  (.region [
    ⟨(some 2), .move (.c (.bool false)), none⟩])
  (.seq
  (.seq
  (.region [
    ⟨(some 4), .move (.t 0), none⟩,
    ⟨(some 5), .lenS (.t 4), none⟩,
    ⟨(some 6), .bin .lss (.t 5) (.c (.int .i64 1)), none⟩,
    ⟨(some 7), .move (.t 6), none⟩,
    ⟨(some 8), .move (.t 0), some (some 7, false)⟩,
    ⟨(some 9), .lenS (.t 8), some (some 7, false)⟩,
    ⟨(some 10), .bin .gtr (.t 9) (.c (.int .i64 24)), some (some 7, false)⟩,
    ⟨(some 11), .pick (.t 7) (.c (.bool true)) (.t 10), none⟩,
    ⟨(some 12), .move (.t 11), none⟩,
    ⟨(some 13), .move (.t 0), some (some 12, false)⟩,
    ⟨(some 14), .indexStr (.t 13) (.c (.int .i64 0)), some (some 12, false)⟩,
    ⟨(some 15), .bin .lss (.t 14) (.c (.int .u8 97)), some (some 12, false)⟩,
    ⟨(some 16), .pick (.t 12) (.c (.bool true)) (.t 15), none⟩,
    ⟨(some 17), .move (.t 16), none⟩,
    ⟨(some 18), .move (.t 0), some (some 17, false)⟩,
    ⟨(some 19), .indexStr (.t 18) (.c (.int .i64 0)), some (some 17, false)⟩,
    ⟨(some 20), .bin .gtr (.t 19) (.c (.int .u8 122)), some (some 17, false)⟩,
    ⟨(some 21), .pick (.t 17) (.c (.bool true)) (.t 20), none⟩])
  (.cond (.t 21)
    (.seq
    (.region [
      ⟨(some 2), .move (.c (.bool false)), none⟩])
    .ret)
    .skip))
  (.seq
  (.seq
  (.region [
    ⟨(some 3), .move (.c (.int .i64 0)), none⟩])
  (.block 0
    (.loop
      (.seq
      (.seq
      (.region [
        ⟨(some 22), .move (.t 3), none⟩,
        ⟨(some 23), .move (.t 0), none⟩,
        ⟨(some 24), .lenS (.t 23), none⟩,
        ⟨(some 25), .bin .lss (.t 22) (.t 24), none⟩])
      (.cond (.t 25)
        .skip
        (.exit 0)))
      (.seq
      (.block 1
        (.seq
        (.region [
          ⟨(some 28), .move (.t 0), none⟩,
          ⟨(some 29), .move (.t 3), none⟩,
          ⟨(some 30), .indexStr (.t 28) (.t 29), none⟩,
          ⟨(some 31), .bin .geq (.t 30) (.c (.int .u8 97)), none⟩,
          ⟨(some 32), .move (.t 31), none⟩,
          ⟨(some 33), .move (.t 0), some (some 32, true)⟩,
          ⟨(some 34), .move (.t 3), some (some 32, true)⟩,
          ⟨(some 35), .indexStr (.t 33) (.t 34), some (some 32, true)⟩,
          ⟨(some 36), .bin .leq (.t 35) (.c (.int .u8 122)), some (some 32, true)⟩,
          ⟨(some 37), .pick (.t 32) (.t 36) (.c (.bool false)), none⟩,
          ⟨(some 38), .un .not (.t 37), none⟩,
          ⟨(some 39), .move (.t 38), none⟩,
          ⟨(some 40), .move (.t 0), some (some 39, true)⟩,
          ⟨(some 41), .move (.t 3), some (some 39, true)⟩,
          ⟨(some 42), .indexStr (.t 40) (.t 41), some (some 39, true)⟩,
          ⟨(some 43), .bin .geq (.t 42) (.c (.int .u8 48)), some (some 39, true)⟩,
          ⟨(some 44), .move (.t 43), some (some 39, true)⟩,
          ⟨(some 45), .move (.t 0), some (some 44, true)⟩,
          ⟨(some 46), .move (.t 3), some (some 44, true)⟩,
          ⟨(some 47), .indexStr (.t 45) (.t 46), some (some 44, true)⟩,
          ⟨(some 48), .bin .leq (.t 47) (.c (.int .u8 57)), some (some 44, true)⟩,
          ⟨(some 49), .pick (.t 44) (.t 48) (.c (.bool false)), some (some 39, true)⟩,
          ⟨(some 50), .un .not (.t 49), some (some 39, true)⟩,
          ⟨(some 51), .pick (.t 39) (.t 50) (.c (.bool false)), none⟩,
          ⟨(some 52), .move (.t 51), none⟩,
          ⟨(some 53), .move (.t 0), some (some 52, true)⟩,
          ⟨(some 54), .move (.t 3), some (some 52, true)⟩,
          ⟨(some 55), .indexStr (.t 53) (.t 54), some (some 52, true)⟩,
          ⟨(some 56), .bin .neq (.t 55) (.c (.int .u8 95)), some (some 52, true)⟩,
          ⟨(some 57), .pick (.t 52) (.t 56) (.c (.bool false)), none⟩])
        (.cond (.t 57)
          (.seq
          (.region [
            ⟨(some 2), .move (.c (.bool false)), none⟩])
          .ret)
          .skip)))
      (.region [
        ⟨(some 26), .move (.t 3), none⟩,
        ⟨(some 27), .bin .add (.t 26) (.c (.int .i64 1)), none⟩,
        ⟨(some 3), .move (.t 27), none⟩]))))))
  (.seq
  (.region [
    ⟨(some 2), .move (.c (.bool true)), none⟩])
  .ret))))⟩

/-- warehouseref5_IsName, and what it calls. -/
structure F_warehouseref5_IsName (P : Program) where
  id : FuncId
  has : Has P id [] c_warehouseref5_IsName

/-- The code of warehouseref5_IsQualified. -/
def c_warehouseref5_IsQualified (f_warehouseref5_IsName : FuncId) : AFunc := ⟨27, [.tmp 2],
  (.seq
  (.region [
    ⟨(some 2), .move (.c (.bool false)), none⟩])
  (.seq
  (.seq
  (.region [
    ⟨(some 3), .move (.c (.int .i64 0)), none⟩])
  (.block 0
    (.loop
      (.seq
      (.seq
      (.region [
        ⟨(some 4), .move (.t 3), none⟩,
        ⟨(some 5), .move (.t 0), none⟩,
        ⟨(some 6), .lenS (.t 5), none⟩,
        ⟨(some 7), .bin .lss (.t 4) (.t 6), none⟩])
      (.cond (.t 7)
        .skip
        (.exit 0)))
      (.seq
      (.block 1
        (.seq
        (.region [
          ⟨(some 10), .move (.t 0), none⟩,
          ⟨(some 11), .move (.t 3), none⟩,
          ⟨(some 12), .indexStr (.t 10) (.t 11), none⟩,
          ⟨(some 13), .bin .eql (.t 12) (.c (.int .u8 46)), none⟩])
        (.cond (.t 13)
          (.seq
          (.region [
            ⟨(some 14), .move (.t 0), none⟩,
            ⟨(some 15), .move (.t 3), none⟩,
            ⟨(some 16), .sliceStr (.t 14) none (some (.t 15)), none⟩,
            ⟨(some 17), .call f_warehouseref5_IsName [(.t 16)], none⟩,
            ⟨(some 18), .move (.t 17), none⟩,
            ⟨(some 19), .move (.t 0), some (some 18, true)⟩,
            ⟨(some 20), .move (.t 3), some (some 18, true)⟩,
            ⟨(some 21), .bin .add (.t 20) (.c (.int .i64 1)), some (some 18, true)⟩,
            ⟨(some 22), .sliceStr (.t 19) (some (.t 21)) none, some (some 18, true)⟩,
            ⟨(some 23), .call f_warehouseref5_IsName [(.t 22)], some (some 18, true)⟩,
            ⟨(some 24), .pick (.t 18) (.t 23) (.c (.bool false)), none⟩,
            ⟨(some 2), .move (.t 24), none⟩])
          .ret)
          .skip)))
      (.region [
        ⟨(some 8), .move (.t 3), none⟩,
        ⟨(some 9), .bin .add (.t 8) (.c (.int .i64 1)), none⟩,
        ⟨(some 3), .move (.t 9), none⟩]))))))
  (.seq
  (.region [
    ⟨(some 25), .move (.t 0), none⟩,
    ⟨(some 26), .call f_warehouseref5_IsName [(.t 25)], none⟩,
    ⟨(some 2), .move (.t 26), none⟩])
  .ret)))⟩

/-- warehouseref5_IsQualified, and what it calls. -/
structure F_warehouseref5_IsQualified (P : Program) where
  id : FuncId
  warehouseref5_IsName : F_warehouseref5_IsName P
  has : Has P id [] (c_warehouseref5_IsQualified warehouseref5_IsName.id)

/-- The code of warehouselaw5_SchemaNames. -/
def c_warehouselaw5_SchemaNames (f_warehouselaw5_known : FuncId) (f_warehousebase_At : FuncId) (f_schema_IsName : FuncId) (f_warehouseref5_IsName : FuncId) (f_schema_IsQualified : FuncId) (f_warehouseref5_IsQualified : FuncId) : AFunc := ⟨57, [.tmp 6],
  (.seq
  (.region [
    ⟨(some 6), .move (.c (.bool false)), none⟩])
  (.seq
  (.seq
  (.region [
    ⟨(some 9), .move (.t 0), none⟩,
    ⟨(some 10), .lenS (.t 9), none⟩,
    ⟨(some 11), .bin .gtr (.t 10) (.c (.int .i64 200)), none⟩])
  (.cond (.t 11)
    (.seq
    (.region [
      ⟨(some 12), .call f_warehouselaw5_known [], none⟩,
      ⟨(some 6), .move (.t 12), none⟩])
    .ret)
    .skip))
  (.seq
  (.region [
    ⟨(some 7), .move (.c (.str (bs []))), none⟩])
  (.seq
  (.seq
  (.region [
    ⟨(some 8), .move (.c (.int .i64 0)), none⟩])
  (.block 0
    (.loop
      (.seq
      (.seq
      (.region [
        ⟨(some 13), .move (.t 8), none⟩,
        ⟨(some 14), .move (.t 2), none⟩,
        ⟨(some 15), .bin .and (.t 14) (.c (.int .i64 63)), none⟩,
        ⟨(some 16), .bin .lss (.t 13) (.t 15), none⟩])
      (.cond (.t 16)
        .skip
        (.exit 0)))
      (.seq
      (.block 1
        (.region [
          ⟨(some 19), .move (.t 7), none⟩,
          ⟨(some 20), .buildSlice 1 9 [(.str (bs []))] [(0, (.c (.str (bs [97])))), (1, (.c (.str (bs [122])))), (2, (.c (.str (bs [48])))), (3, (.c (.str (bs [95])))), (4, (.c (.str (bs [97, 98, 99, 100, 101, 102])))), (5, (.c (.str (bs [65])))), (6, (.c (.str (bs [46])))), (7, (.c (.str (bs [45])))), (8, (.c (.str (bs [255]))))], none⟩,
          ⟨(some 21), .move (.t 1), none⟩,
          ⟨(some 22), .move (.t 8), none⟩,
          ⟨(some 23), .call f_warehousebase_At [(.t 21), (.t 22)], none⟩,
          ⟨(some 24), .bin .rem (.t 23) (.c (.int .i64 9)), none⟩,
          ⟨(some 25), .indexAddr 1 (.t 20) (.t 24), none⟩,
          ⟨(some 26), .load false 1 (.t 25), none⟩,
          ⟨(some 27), .bin .add (.t 19) (.t 26), none⟩,
          ⟨(some 7), .move (.t 27), none⟩]))
      (.region [
        ⟨(some 17), .move (.t 8), none⟩,
        ⟨(some 18), .bin .add (.t 17) (.c (.int .i64 1)), none⟩,
        ⟨(some 8), .move (.t 18), none⟩]))))))
  (.seq
  (.region [
    ⟨(some 28), .move (.t 0), none⟩,
    ⟨(some 29), .call f_schema_IsName [(.t 28)], none⟩,
    ⟨(some 30), .move (.t 0), none⟩,
    ⟨(some 31), .call f_warehouseref5_IsName [(.t 30)], none⟩,
    ⟨(some 32), .eqb false (.t 29) (.t 31), none⟩,
    ⟨(some 33), .move (.t 32), none⟩,
    ⟨(some 34), .move (.t 0), some (some 33, true)⟩,
    ⟨(some 35), .call f_schema_IsQualified [(.t 34)], some (some 33, true)⟩,
    ⟨(some 36), .move (.t 0), some (some 33, true)⟩,
    ⟨(some 37), .call f_warehouseref5_IsQualified [(.t 36)], some (some 33, true)⟩,
    ⟨(some 38), .eqb false (.t 35) (.t 37), some (some 33, true)⟩,
    ⟨(some 39), .pick (.t 33) (.t 38) (.c (.bool false)), none⟩,
    ⟨(some 40), .move (.t 39), none⟩,
    ⟨(some 41), .move (.t 7), some (some 40, true)⟩,
    ⟨(some 42), .call f_schema_IsName [(.t 41)], some (some 40, true)⟩,
    ⟨(some 43), .move (.t 7), some (some 40, true)⟩,
    ⟨(some 44), .call f_warehouseref5_IsName [(.t 43)], some (some 40, true)⟩,
    ⟨(some 45), .eqb false (.t 42) (.t 44), some (some 40, true)⟩,
    ⟨(some 46), .pick (.t 40) (.t 45) (.c (.bool false)), none⟩,
    ⟨(some 47), .move (.t 46), none⟩,
    ⟨(some 48), .move (.t 7), some (some 47, true)⟩,
    ⟨(some 49), .call f_schema_IsQualified [(.t 48)], some (some 47, true)⟩,
    ⟨(some 50), .move (.t 7), some (some 47, true)⟩,
    ⟨(some 51), .call f_warehouseref5_IsQualified [(.t 50)], some (some 47, true)⟩,
    ⟨(some 52), .eqb false (.t 49) (.t 51), some (some 47, true)⟩,
    ⟨(some 53), .pick (.t 47) (.t 52) (.c (.bool false)), none⟩,
    ⟨(some 54), .move (.t 53), none⟩,
    ⟨(some 55), .call f_warehouselaw5_known [], some (some 54, true)⟩,
    ⟨(some 56), .pick (.t 54) (.t 55) (.c (.bool false)), none⟩,
    ⟨(some 6), .move (.t 56), none⟩])
  .ret)))))⟩

/-- warehouselaw5_SchemaNames, and what it calls. -/
structure F_warehouselaw5_SchemaNames (P : Program) where
  id : FuncId
  warehouselaw5_known : F_warehouselaw5_known P
  warehousebase_At : F_warehousebase_At P
  schema_IsName : F_schema_IsName P
  warehouseref5_IsName : F_warehouseref5_IsName P
  schema_IsQualified : F_schema_IsQualified P
  warehouseref5_IsQualified : F_warehouseref5_IsQualified P
  has : Has P id [] (c_warehouselaw5_SchemaNames warehouselaw5_known.id warehousebase_At.id schema_IsName.id warehouseref5_IsName.id schema_IsQualified.id warehouseref5_IsQualified.id)

/-- The code of warehousebase_Columns. -/
def c_warehousebase_Columns (f_warehousebase_At : FuncId) : AFunc := ⟨51, [.tmp 4],
  (.seq
  (.region [
    ⟨(some 4), .move (.c .nil), none⟩])
  (.seq
  (.region [
    ⟨(some 5), .move (.c .nil), none⟩])
  (.seq
  (.seq
  (.region [
    ⟨(some 6), .move (.c (.int .i64 0)), none⟩])
  (.block 0
    (.loop
      (.seq
      (.seq
      (.region [
        ⟨(some 9), .move (.t 6), none⟩,
        ⟨(some 10), .move (.t 1), none⟩,
        ⟨(some 11), .bin .lss (.t 9) (.t 10), none⟩])
      (.cond (.t 11)
        .skip
        (.exit 0)))
      (.seq
      (.block 1
        (.seq
        (.region [
          ⟨(some 14), .move (.t 0), none⟩,
          ⟨(some 15), .move (.t 6), none⟩,
          ⟨(some 16), .call f_warehousebase_At [(.t 14), (.t 15)], none⟩,
          ⟨(some 7), .move (.t 16), none⟩])
        (.seq
        (.region [
          ⟨(some 17), .move (.t 7), none⟩,
          ⟨(some 18), .bin .rem (.t 17) (.c (.int .i64 9)), none⟩,
          ⟨(some 19), .bin .add (.c (.int .i64 97)) (.t 18), none⟩,
          ⟨(some 20), .conv .u8 (.t 19), none⟩,
          ⟨(some 21), .buildSlice 1 1 [(.int .u8 0)] [(0, (.t 20))], none⟩,
          ⟨(some 22), .convBS (.t 21), none⟩,
          ⟨(some 23), .move (.t 7), none⟩,
          ⟨(some 24), .bin .quo (.t 23) (.c (.int .i64 9)), none⟩,
          ⟨(some 25), .bin .rem (.t 24) (.c (.int .i64 4)), none⟩,
          ⟨(some 26), .bin .add (.c (.int .i64 1)) (.t 25), none⟩,
          ⟨(some 27), .move (.t 7), none⟩,
          ⟨(some 28), .bin .quo (.t 27) (.c (.int .i64 36)), none⟩,
          ⟨(some 29), .bin .rem (.t 28) (.c (.int .i64 2)), none⟩,
          ⟨(some 30), .bin .eql (.t 29) (.c (.int .i64 1)), none⟩,
          ⟨(some 31), .build [(.str (bs [])), (.int .i64 0), (.bool false)] [(0, 1, (.t 22)), (1, 1, (.t 26)), (2, 1, (.t 30))], none⟩,
          ⟨(some 8), .alloc [(.str (bs [])), (.int .i64 0), (.bool false)], none⟩,
          ⟨none, .store 3 (.t 8) (.t 31), none⟩])
        (.seq
        (.seq
        (.region [
          ⟨(some 32), .move (.t 7), none⟩,
          ⟨(some 33), .bin .shr (.t 32) (.c (.int .u64 8)), none⟩,
          ⟨(some 34), .bin .and (.t 33) (.c (.int .i64 15)), none⟩,
          ⟨(some 35), .bin .eql (.t 34) (.c (.int .i64 0)), none⟩])
        (.cond (.t 35)
          (.region [
            ⟨(some 36), .buildSlice 1 4 [(.str (bs []))] [(0, (.c (.str (bs [])))), (1, (.c (.str (bs [65])))), (2, (.c (.str (bs [97, 46, 98])))), (3, (.c (.str (bs [98, 121]))))], none⟩,
            ⟨(some 37), .move (.t 7), none⟩,
            ⟨(some 38), .bin .rem (.t 37) (.c (.int .i64 4)), none⟩,
            ⟨(some 39), .indexAddr 1 (.t 36) (.t 38), none⟩,
            ⟨(some 40), .load false 1 (.t 39), none⟩,
            ⟨(some 41), .move (.t 7), none⟩,
            ⟨(some 42), .bin .rem (.t 41) (.c (.int .i64 7)), none⟩,
            ⟨(some 43), .bin .sub (.t 42) (.c (.int .i64 1)), none⟩,
            ⟨(some 44), .fieldAddr 0 (.t 8), none⟩,
            ⟨none, .store 1 (.t 44) (.t 40), none⟩,
            ⟨(some 45), .fieldAddr 1 (.t 8), none⟩,
            ⟨none, .store 1 (.t 45) (.t 43), none⟩])
          .skip))
        (.region [
          ⟨(some 46), .move (.t 5), none⟩,
          ⟨(some 47), .load true 3 (.t 8), none⟩,
          ⟨(some 48), .buildSlice 3 1 [(.str (bs [])), (.int .i64 0), (.bool false)] [(0, (.t 47))], none⟩,
          ⟨(some 49), .append 3 32 [(.str (bs [])), (.int .i64 0), (.bool false)] (.t 46) (.t 48), none⟩,
          ⟨(some 5), .move (.t 49), none⟩])))))
      (.region [
        ⟨(some 12), .move (.t 6), none⟩,
        ⟨(some 13), .bin .add (.t 12) (.c (.int .i64 1)), none⟩,
        ⟨(some 6), .move (.t 13), none⟩]))))))
  (.seq
  (.region [
    ⟨(some 50), .move (.t 5), none⟩,
    ⟨(some 4), .move (.t 50), none⟩])
  .ret))))⟩

/-- warehousebase_Columns, and what it calls. -/
structure F_warehousebase_Columns (P : Program) where
  id : FuncId
  warehousebase_At : F_warehousebase_At P
  has : Has P id [] (c_warehousebase_Columns warehousebase_At.id)

/-- The code of warehouseref5_Index. -/
def c_warehouseref5_Index : AFunc := ⟨20, [.tmp 4],
  (.seq
  (.region [
    ⟨(some 4), .move (.c (.int .i64 0)), none⟩])
  (.seq
  (.seq
  (.region [
    ⟨(some 5), .move (.c (.int .i64 0)), none⟩])
  (.block 0
    (.loop
      (.seq
      (.seq
      (.region [
        ⟨(some 6), .move (.t 5), none⟩,
        ⟨(some 7), .move (.t 0), none⟩,
        ⟨(some 8), .len (.t 7), none⟩,
        ⟨(some 9), .bin .lss (.t 6) (.t 8), none⟩])
      (.cond (.t 9)
        .skip
        (.exit 0)))
      (.seq
      (.block 1
        (.seq
        (.region [
          ⟨(some 12), .move (.t 0), none⟩,
          ⟨(some 13), .move (.t 5), none⟩,
          ⟨(some 14), .indexAddr 3 (.t 12) (.t 13), none⟩,
          ⟨(some 15), .fieldAddr 0 (.t 14), none⟩,
          ⟨(some 16), .load false 1 (.t 15), none⟩,
          ⟨(some 17), .move (.t 1), none⟩,
          ⟨(some 18), .bin .eql (.t 16) (.t 17), none⟩])
        (.cond (.t 18)
          (.seq
          (.region [
            ⟨(some 19), .move (.t 5), none⟩,
            ⟨(some 4), .move (.t 19), none⟩])
          .ret)
          .skip)))
      (.region [
        ⟨(some 10), .move (.t 5), none⟩,
        ⟨(some 11), .bin .add (.t 10) (.c (.int .i64 1)), none⟩,
        ⟨(some 5), .move (.t 11), none⟩]))))))
  (.seq
  (.region [
    ⟨(some 4), .move (.c (.int .i64 (-1))), none⟩])
  .ret)))⟩

/-- warehouseref5_Index, and what it calls. -/
structure F_warehouseref5_Index (P : Program) where
  id : FuncId
  has : Has P id [] c_warehouseref5_Index

/-- The code of warehouselaw5_SchemaFinds. -/
def c_warehouselaw5_SchemaFinds (f_warehouselaw5_known : FuncId) (f_warehousebase_Columns : FuncId) (f_schema_Index : FuncId) (f_warehouseref5_Index : FuncId) : AFunc := ⟨45, [.tmp 8],
  (.seq
  (.region [
    ⟨(some 8), .move (.c (.bool false)), none⟩])
  (.seq
  (.seq
  (.region [
    ⟨(some 11), .move (.t 0), none⟩,
    ⟨(some 12), .len (.t 11), none⟩,
    ⟨(some 13), .bin .gtr (.t 12) (.c (.int .i64 100)), none⟩])
  (.cond (.t 13)
    (.seq
    (.region [
      ⟨(some 14), .call f_warehouselaw5_known [], none⟩,
      ⟨(some 8), .move (.t 14), none⟩])
    .ret)
    .skip))
  (.seq
  (.region [
    ⟨(some 15), .move (.t 2), none⟩,
    ⟨(some 16), .move (.t 3), none⟩,
    ⟨(some 17), .bin .and (.t 16) (.c (.int .i64 7)), none⟩,
    ⟨(some 18), .call f_warehousebase_Columns [(.t 15), (.t 17)], none⟩,
    ⟨(some 9), .move (.t 18), none⟩])
  (.seq
  (.region [
    ⟨(some 19), .move (.t 3), none⟩,
    ⟨(some 20), .bin .shr (.t 19) (.c (.int .u64 3)), none⟩,
    ⟨(some 21), .bin .and (.t 20) (.c (.int .i64 15)), none⟩,
    ⟨(some 22), .bin .add (.c (.int .i64 97)) (.t 21), none⟩,
    ⟨(some 23), .conv .u8 (.t 22), none⟩,
    ⟨(some 24), .buildSlice 1 1 [(.int .u8 0)] [(0, (.t 23))], none⟩,
    ⟨(some 25), .convBS (.t 24), none⟩,
    ⟨(some 10), .move (.t 25), none⟩])
  (.seq
  (.region [
    ⟨(some 26), .move (.t 0), none⟩,
    ⟨(some 27), .move (.t 1), none⟩,
    ⟨(some 28), .call f_schema_Index [(.t 26), (.t 27)], none⟩,
    ⟨(some 29), .move (.t 0), none⟩,
    ⟨(some 30), .move (.t 1), none⟩,
    ⟨(some 31), .call f_warehouseref5_Index [(.t 29), (.t 30)], none⟩,
    ⟨(some 32), .bin .eql (.t 28) (.t 31), none⟩,
    ⟨(some 33), .move (.t 32), none⟩,
    ⟨(some 34), .move (.t 9), some (some 33, true)⟩,
    ⟨(some 35), .move (.t 10), some (some 33, true)⟩,
    ⟨(some 36), .call f_schema_Index [(.t 34), (.t 35)], some (some 33, true)⟩,
    ⟨(some 37), .move (.t 9), some (some 33, true)⟩,
    ⟨(some 38), .move (.t 10), some (some 33, true)⟩,
    ⟨(some 39), .call f_warehouseref5_Index [(.t 37), (.t 38)], some (some 33, true)⟩,
    ⟨(some 40), .bin .eql (.t 36) (.t 39), some (some 33, true)⟩,
    ⟨(some 41), .pick (.t 33) (.t 40) (.c (.bool false)), none⟩,
    ⟨(some 42), .move (.t 41), none⟩,
    ⟨(some 43), .call f_warehouselaw5_known [], some (some 42, true)⟩,
    ⟨(some 44), .pick (.t 42) (.t 43) (.c (.bool false)), none⟩,
    ⟨(some 8), .move (.t 44), none⟩])
  .ret)))))⟩

/-- warehouselaw5_SchemaFinds, and what it calls. -/
structure F_warehouselaw5_SchemaFinds (P : Program) where
  id : FuncId
  warehouselaw5_known : F_warehouselaw5_known P
  warehousebase_Columns : F_warehousebase_Columns P
  schema_Index : F_schema_Index P
  warehouseref5_Index : F_warehouseref5_Index P
  has : Has P id [] (c_warehouselaw5_SchemaFinds warehouselaw5_known.id warehousebase_Columns.id schema_Index.id warehouseref5_Index.id)

/-- The code of warehousebase_Cell. -/
def c_warehousebase_Cell (f_warehousebase_Value : FuncId) : AFunc := ⟨18, [.cell true 3 4],
  (.seq
  (.region [
    ⟨(some 2), .box (.t 0), none⟩,
    ⟨(some 4), .alloc [(.int .i64 0), (.int .i64 0), (.str (bs []))], none⟩])
  (.seq
  (.seq
  (.region [
    ⟨(some 5), .fieldAddr 2 (.t 2), none⟩,
    ⟨(some 6), .load false 1 (.t 5), none⟩,
    ⟨(some 7), .move (.t 6), none⟩,
    ⟨(some 8), .move (.t 1), some (some 7, true)⟩,
    ⟨(some 9), .bin .rem (.t 8) (.c (.int .i64 4)), some (some 7, true)⟩,
    ⟨(some 10), .bin .eql (.t 9) (.c (.int .i64 0)), some (some 7, true)⟩,
    ⟨(some 11), .pick (.t 7) (.t 10) (.c (.bool false)), none⟩])
  (.cond (.t 11)
    (.seq
    (.region [
      ⟨(some 12), .build [(.int .i64 0), (.int .i64 0), (.str (bs []))] [], none⟩,
      ⟨none, .store 3 (.t 4) (.t 12), none⟩])
    .ret)
    .skip))
  (.seq
  (.region [
    ⟨(some 13), .fieldAddr 1 (.t 2), none⟩,
    ⟨(some 14), .load false 1 (.t 13), none⟩,
    ⟨(some 15), .move (.t 1), none⟩,
    ⟨(some 16), .bin .quo (.t 15) (.c (.int .i64 4)), none⟩,
    ⟨(some 17), .call f_warehousebase_Value [(.t 14), (.t 16)], none⟩,
    ⟨none, .store 3 (.t 4) (.t 17), none⟩])
  .ret)))⟩

/-- warehousebase_Cell, and what it calls. -/
structure F_warehousebase_Cell (P : Program) where
  id : FuncId
  warehousebase_Value : F_warehousebase_Value P
  has : Has P id [] (c_warehousebase_Cell warehousebase_Value.id)

/-- The code of warehousebase_Row. -/
def c_warehousebase_Row (f_warehousebase_At : FuncId) (f_warehousebase_Cell : FuncId) : AFunc := ⟨32, [.tmp 6],
  (.seq
  (.region [
    ⟨(some 6), .move (.c .nil), none⟩])
  (.seq
  (.region [
    ⟨(some 9), .move (.t 0), none⟩,
    ⟨(some 10), .len (.t 9), none⟩,
    ⟨(some 11), .mkSlice 3 32 [(.int .i64 0), (.int .i64 0), (.str (bs []))] (.t 10) (.t 10), none⟩,
    ⟨(some 7), .move (.t 11), none⟩])
  (.seq
  (.seq
  (.region [
    ⟨(some 8), .move (.c (.int .i64 0)), none⟩])
  (.block 0
    (.loop
      (.seq
      (.seq
      (.region [
        ⟨(some 12), .move (.t 8), none⟩,
        ⟨(some 13), .move (.t 0), none⟩,
        ⟨(some 14), .len (.t 13), none⟩,
        ⟨(some 15), .bin .lss (.t 12) (.t 14), none⟩])
      (.cond (.t 15)
        .skip
        (.exit 0)))
      (.seq
      (.block 1
        (.draw [
          (⟨(some 18), .move (.t 7), none⟩, []),
          (⟨(some 19), .move (.t 8), none⟩, []),
          (⟨(some 20), .move (.t 0), none⟩, []),
          (⟨(some 21), .move (.t 8), none⟩, []),
          (⟨(some 22), .indexAddr 3 (.t 20) (.t 21), none⟩, []),
          (⟨(some 23), .load true 3 (.t 22), none⟩, []),
          (⟨(some 24), .move (.t 1), none⟩, []),
          (⟨(some 25), .move (.t 2), none⟩, []),
          (⟨(some 26), .move (.t 8), none⟩, []),
          (⟨(some 27), .bin .add (.t 25) (.t 26), none⟩, []),
          (⟨(some 28), .call f_warehousebase_At [(.t 24), (.t 27)], none⟩, []),
          (⟨(some 29), .call f_warehousebase_Cell [(.t 23), (.t 28)], none⟩, []),
          (⟨(some 30), .indexAddr 3 (.t 18) (.t 19), none⟩, []),
          (⟨none, .store 3 (.t 30) (.t 29), none⟩, [])]))
      (.region [
        ⟨(some 16), .move (.t 8), none⟩,
        ⟨(some 17), .bin .add (.t 16) (.c (.int .i64 1)), none⟩,
        ⟨(some 8), .move (.t 17), none⟩]))))))
  (.seq
  (.region [
    ⟨(some 31), .move (.t 7), none⟩,
    ⟨(some 6), .move (.t 31), none⟩])
  .ret))))⟩

/-- warehousebase_Row, and what it calls. -/
structure F_warehousebase_Row (P : Program) where
  id : FuncId
  warehousebase_At : F_warehousebase_At P
  warehousebase_Cell : F_warehousebase_Cell P
  has : Has P id [] (c_warehousebase_Row warehousebase_At.id warehousebase_Cell.id)

/-- The code of warehouseref5_CheckRow. -/
def c_warehouseref5_CheckRow (f_warehouseref1_Valid : FuncId) : AFunc := ⟨58, [.tmp 4],
  (.seq
  (.region [
    ⟨(some 4), .move (.c (.int .i64 0)), none⟩])
  (.seq
  (.seq
  (.region [
    ⟨(some 6), .move (.t 0), none⟩,
    ⟨(some 7), .len (.t 6), none⟩,
    ⟨(some 8), .move (.t 1), none⟩,
    ⟨(some 9), .len (.t 8), none⟩,
    ⟨(some 10), .bin .neq (.t 7) (.t 9), none⟩])
  (.cond (.t 10)
    (.seq
    (.region [
      ⟨(some 4), .move (.c (.int .i64 8)), none⟩])
    .ret)
    .skip))
  (.seq
  (.seq
  (.region [
    ⟨(some 5), .move (.c (.int .i64 0)), none⟩])
  (.block 0
    (.loop
      (.seq
      (.seq
      (.region [
        ⟨(some 11), .move (.t 5), none⟩,
        ⟨(some 12), .move (.t 1), none⟩,
        ⟨(some 13), .len (.t 12), none⟩,
        ⟨(some 14), .bin .lss (.t 11) (.t 13), none⟩])
      (.cond (.t 14)
        .skip
        (.exit 0)))
      (.seq
      (.block 1
        (.seq
        (.seq
        (.region [
          ⟨(some 17), .move (.t 1), none⟩,
          ⟨(some 18), .move (.t 5), none⟩,
          ⟨(some 19), .indexAddr 3 (.t 17) (.t 18), none⟩,
          ⟨(some 20), .load true 3 (.t 19), none⟩,
          ⟨(some 21), .call f_warehouseref1_Valid [(.t 20)], none⟩,
          ⟨(some 22), .un .not (.t 21), none⟩])
        (.cond (.t 22)
          (.seq
          (.region [
            ⟨(some 4), .move (.c (.int .i64 8)), none⟩])
          .ret)
          .skip))
        (.seq
        (.draw [
          (⟨(some 23), .move (.t 1), none⟩, []),
          (⟨(some 24), .move (.t 5), none⟩, []),
          (⟨(some 25), .indexAddr 3 (.t 23) (.t 24), none⟩, []),
          (⟨(some 26), .fieldAddr 0 (.t 25), none⟩, []),
          (⟨(some 27), .load false 1 (.t 26), none⟩, []),
          (⟨(some 28), .bin .eql (.t 27) (.c (.int .i64 0)), none⟩, []),
          (⟨(some 29), .move (.t 28), none⟩, []),
          (⟨(some 30), .move (.t 0), some (some 29, true)⟩, []),
          (⟨(some 31), .move (.t 5), some (some 29, true)⟩, []),
          (⟨(some 32), .indexAddr 3 (.t 30) (.t 31), some (some 29, true)⟩, []),
          (⟨(some 33), .fieldAddr 2 (.t 32), some (some 29, true)⟩, []),
          (⟨(some 34), .load false 1 (.t 33), some (some 29, true)⟩, []),
          (⟨(some 35), .un .not (.t 34), some (some 29, true)⟩, []),
          (⟨(some 36), .pick (.t 29) (.t 35) (.c (.bool false)), none⟩, []),
          (⟨(some 37), .move (.t 36), none⟩, []),
          (⟨(some 38), .move (.t 1), some (some 37, false)⟩, []),
          (⟨(some 39), .move (.t 5), some (some 37, false)⟩, []),
          (⟨(some 40), .indexAddr 3 (.t 38) (.t 39), some (some 37, false)⟩, []),
          (⟨(some 41), .fieldAddr 0 (.t 40), some (some 37, false)⟩, []),
          (⟨(some 42), .load false 1 (.t 41), some (some 37, false)⟩, []),
          (⟨(some 43), .bin .neq (.t 42) (.c (.int .i64 0)), some (some 37, false)⟩, []),
          (⟨(some 44), .move (.t 43), some (some 37, false)⟩, []),
          (⟨(some 45), .move (.t 1), some (some 44, true)⟩, []),
          (⟨(some 46), .move (.t 5), some (some 44, true)⟩, []),
          (⟨(some 47), .indexAddr 3 (.t 45) (.t 46), some (some 44, true)⟩, []),
          (⟨(some 48), .fieldAddr 0 (.t 47), some (some 44, true)⟩, []),
          (⟨(some 49), .load false 1 (.t 48), some (some 44, true)⟩, []),
          (⟨(some 50), .move (.t 0), some (some 44, true)⟩, []),
          (⟨(some 51), .move (.t 5), some (some 44, true)⟩, []),
          (⟨(some 52), .indexAddr 3 (.t 50) (.t 51), some (some 44, true)⟩, []),
          (⟨(some 53), .fieldAddr 1 (.t 52), some (some 44, true)⟩, []),
          (⟨(some 54), .load false 1 (.t 53), some (some 44, true)⟩, []),
          (⟨(some 55), .bin .neq (.t 49) (.t 54), some (some 44, true)⟩, []),
          (⟨(some 56), .pick (.t 44) (.t 55) (.c (.bool false)), some (some 37, false)⟩, []),
          (⟨(some 57), .pick (.t 37) (.c (.bool true)) (.t 56), none⟩, [])])
        (.cond (.t 57)
          (.seq
          (.region [
            ⟨(some 4), .move (.c (.int .i64 7)), none⟩])
          .ret)
          .skip))))
      (.region [
        ⟨(some 15), .move (.t 5), none⟩,
        ⟨(some 16), .bin .add (.t 15) (.c (.int .i64 1)), none⟩,
        ⟨(some 5), .move (.t 16), none⟩]))))))
  (.seq
  (.region [
    ⟨(some 4), .move (.c (.int .i64 0)), none⟩])
  .ret))))⟩

/-- warehouseref5_CheckRow, and what it calls. -/
structure F_warehouseref5_CheckRow (P : Program) where
  id : FuncId
  warehouseref1_Valid : F_warehouseref1_Valid P
  has : Has P id [] (c_warehouseref5_CheckRow warehouseref1_Valid.id)

/-- The code of warehouselaw5_SchemaRows. -/
def c_warehouselaw5_SchemaRows (f_warehouselaw5_known : FuncId) (f_warehousebase_Columns : FuncId) (f_warehousebase_Row : FuncId) (f_warehousebase_Any : FuncId) (f_schema_CheckRow : FuncId) (f_warehouseref5_CheckRow : FuncId) : AFunc := ⟨75, [.tmp 8],
  (.seq
  (.region [
    ⟨(some 8), .move (.c (.bool false)), none⟩])
  (.seq
  (.seq
  (.region [
    ⟨(some 11), .move (.t 0), none⟩,
    ⟨(some 12), .len (.t 11), none⟩,
    ⟨(some 13), .bin .gtr (.t 12) (.c (.int .i64 100)), none⟩,
    ⟨(some 14), .move (.t 13), none⟩,
    ⟨(some 15), .move (.t 1), some (some 14, false)⟩,
    ⟨(some 16), .len (.t 15), some (some 14, false)⟩,
    ⟨(some 17), .bin .gtr (.t 16) (.c (.int .i64 100)), some (some 14, false)⟩,
    ⟨(some 18), .pick (.t 14) (.c (.bool true)) (.t 17), none⟩])
  (.cond (.t 18)
    (.seq
    (.region [
      ⟨(some 19), .call f_warehouselaw5_known [], none⟩,
      ⟨(some 8), .move (.t 19), none⟩])
    .ret)
    .skip))
  (.seq
  (.region [
    ⟨(some 20), .move (.t 2), none⟩,
    ⟨(some 21), .move (.t 3), none⟩,
    ⟨(some 22), .bin .and (.t 21) (.c (.int .i64 7)), none⟩,
    ⟨(some 23), .call f_warehousebase_Columns [(.t 20), (.t 22)], none⟩,
    ⟨(some 9), .move (.t 23), none⟩])
  (.seq
  (.region [
    ⟨(some 24), .move (.t 9), none⟩,
    ⟨(some 25), .move (.t 2), none⟩,
    ⟨(some 26), .call f_warehousebase_Row [(.t 24), (.t 25), (.c (.int .i64 3))], none⟩,
    ⟨(some 10), .move (.t 26), none⟩])
  (.seq
  (.seq
  (.region [
    ⟨(some 27), .move (.t 10), none⟩,
    ⟨(some 28), .len (.t 27), none⟩,
    ⟨(some 29), .bin .gtr (.t 28) (.c (.int .i64 0)), none⟩,
    ⟨(some 30), .move (.t 29), none⟩,
    ⟨(some 31), .move (.t 3), some (some 30, true)⟩,
    ⟨(some 32), .bin .shr (.t 31) (.c (.int .u64 3)), some (some 30, true)⟩,
    ⟨(some 33), .bin .and (.t 32) (.c (.int .i64 3)), some (some 30, true)⟩,
    ⟨(some 34), .bin .eql (.t 33) (.c (.int .i64 0)), some (some 30, true)⟩,
    ⟨(some 35), .pick (.t 30) (.t 34) (.c (.bool false)), none⟩])
  (.cond (.t 35)
    (.draw [
      (⟨(some 36), .move (.t 10), none⟩, []),
      (⟨(some 37), .move (.t 3), none⟩, []),
      (⟨(some 38), .bin .shr (.t 37) (.c (.int .u64 5)), none⟩, []),
      (⟨(some 39), .bin .and (.t 38) (.c (.int .i64 7)), none⟩, []),
      (⟨(some 40), .move (.t 10), none⟩, []),
      (⟨(some 41), .len (.t 40), none⟩, []),
      (⟨(some 42), .bin .rem (.t 39) (.t 41), none⟩, []),
      (⟨(some 43), .move (.t 3), none⟩, []),
      (⟨(some 44), .bin .shr (.t 43) (.c (.int .u64 8)), none⟩, []),
      (⟨(some 45), .call f_warehousebase_Any [(.t 44)], none⟩, []),
      (⟨(some 46), .indexAddr 3 (.t 36) (.t 42), none⟩, []),
      (⟨none, .store 3 (.t 46) (.t 45), none⟩, [])])
    .skip))
  (.seq
  (.region [
    ⟨(some 47), .move (.t 0), none⟩,
    ⟨(some 48), .move (.t 1), none⟩,
    ⟨(some 49), .call f_schema_CheckRow [(.t 47), (.t 48)], none⟩,
    ⟨(some 50), .move (.t 0), none⟩,
    ⟨(some 51), .move (.t 1), none⟩,
    ⟨(some 52), .call f_warehouseref5_CheckRow [(.t 50), (.t 51)], none⟩,
    ⟨(some 53), .bin .eql (.t 49) (.t 52), none⟩,
    ⟨(some 54), .move (.t 53), none⟩,
    ⟨(some 55), .move (.t 9), some (some 54, true)⟩,
    ⟨(some 56), .move (.t 1), some (some 54, true)⟩,
    ⟨(some 57), .call f_schema_CheckRow [(.t 55), (.t 56)], some (some 54, true)⟩,
    ⟨(some 58), .move (.t 9), some (some 54, true)⟩,
    ⟨(some 59), .move (.t 1), some (some 54, true)⟩,
    ⟨(some 60), .call f_warehouseref5_CheckRow [(.t 58), (.t 59)], some (some 54, true)⟩,
    ⟨(some 61), .bin .eql (.t 57) (.t 60), some (some 54, true)⟩,
    ⟨(some 62), .pick (.t 54) (.t 61) (.c (.bool false)), none⟩,
    ⟨(some 63), .move (.t 62), none⟩,
    ⟨(some 64), .move (.t 9), some (some 63, true)⟩,
    ⟨(some 65), .move (.t 10), some (some 63, true)⟩,
    ⟨(some 66), .call f_schema_CheckRow [(.t 64), (.t 65)], some (some 63, true)⟩,
    ⟨(some 67), .move (.t 9), some (some 63, true)⟩,
    ⟨(some 68), .move (.t 10), some (some 63, true)⟩,
    ⟨(some 69), .call f_warehouseref5_CheckRow [(.t 67), (.t 68)], some (some 63, true)⟩,
    ⟨(some 70), .bin .eql (.t 66) (.t 69), some (some 63, true)⟩,
    ⟨(some 71), .pick (.t 63) (.t 70) (.c (.bool false)), none⟩,
    ⟨(some 72), .move (.t 71), none⟩,
    ⟨(some 73), .call f_warehouselaw5_known [], some (some 72, true)⟩,
    ⟨(some 74), .pick (.t 72) (.t 73) (.c (.bool false)), none⟩,
    ⟨(some 8), .move (.t 74), none⟩])
  .ret))))))⟩

/-- warehouselaw5_SchemaRows, and what it calls. -/
structure F_warehouselaw5_SchemaRows (P : Program) where
  id : FuncId
  warehouselaw5_known : F_warehouselaw5_known P
  warehousebase_Columns : F_warehousebase_Columns P
  warehousebase_Row : F_warehousebase_Row P
  warehousebase_Any : F_warehousebase_Any P
  schema_CheckRow : F_schema_CheckRow P
  warehouseref5_CheckRow : F_warehouseref5_CheckRow P
  has : Has P id [] (c_warehouselaw5_SchemaRows warehouselaw5_known.id warehousebase_Columns.id warehousebase_Row.id warehousebase_Any.id schema_CheckRow.id warehouseref5_CheckRow.id)

/-- The code of schema_pick_Value. -/
def c_schema_pick_Value : AFunc := ⟨35, [.tmp 4],
  (.seq
  (.region [
    ⟨(some 4), .move (.c .nil), none⟩])
  (.seq
  (.region [
    ⟨(some 8), .move (.t 1), none⟩,
    ⟨(some 9), .len (.t 8), none⟩,
    ⟨(some 10), .mkSlice 3 32 [(.int .i64 0), (.int .i64 0), (.str (bs []))] (.t 9) (.t 9), none⟩,
    ⟨(some 5), .move (.t 10), none⟩])
  (.seq
  (.seq
  (.region [
    ⟨(some 11), .move (.t 1), none⟩,
    ⟨(some 12), .len (.t 11), none⟩,
    ⟨(some 13), .move (.c (.int .i64 0)), none⟩])
  (.block 0
    (.loop
      (.seq
      (.region [
        ⟨(some 14), .bin .lss (.t 13) (.t 12), none⟩])
      (.seq
      (.cond (.t 14)
        .skip
        (.exit 0))
      (.seq
      (.block 1
        (.seq
        (.region [
          ⟨(some 15), .move (.t 13), none⟩,
          ⟨(some 16), .indexAddr 1 (.t 11) (.t 13), none⟩,
          ⟨(some 17), .load false 1 (.t 16), none⟩,
          ⟨(some 6), .move (.t 15), none⟩,
          ⟨(some 7), .move (.t 17), none⟩])
        (.seq
        (.region [
          ⟨(some 18), .move (.t 7), none⟩,
          ⟨(some 19), .bin .geq (.t 18) (.c (.int .i64 0)), none⟩,
          ⟨(some 20), .move (.t 19), none⟩,
          ⟨(some 21), .move (.t 7), some (some 20, true)⟩,
          ⟨(some 22), .move (.t 0), some (some 20, true)⟩,
          ⟨(some 23), .len (.t 22), some (some 20, true)⟩,
          ⟨(some 24), .bin .lss (.t 21) (.t 23), some (some 20, true)⟩,
          ⟨(some 25), .pick (.t 20) (.t 24) (.c (.bool false)), none⟩])
        (.cond (.t 25)
          (.region [
            ⟨(some 26), .move (.t 5), none⟩,
            ⟨(some 27), .move (.t 6), none⟩,
            ⟨(some 28), .move (.t 0), none⟩,
            ⟨(some 29), .move (.t 7), none⟩,
            ⟨(some 30), .indexAddr 3 (.t 28) (.t 29), none⟩,
            ⟨(some 31), .load true 3 (.t 30), none⟩,
            ⟨(some 32), .indexAddr 3 (.t 26) (.t 27), none⟩,
            ⟨none, .store 3 (.t 32) (.t 31), none⟩])
          .skip))))
      (.region [
        ⟨(some 33), .bin .add (.t 13) (.c (.int .i64 1)), none⟩,
        ⟨(some 13), .move (.t 33), none⟩])))))))
  (.seq
  (.region [
    ⟨(some 34), .move (.t 5), none⟩,
    ⟨(some 4), .move (.t 34), none⟩])
  .ret))))⟩

/-- schema_pick_Value, and what it calls. -/
structure F_schema_pick_Value (P : Program) where
  id : FuncId
  has : Has P id [] c_schema_pick_Value

/-- The code of schema_Pick. -/
def c_schema_Pick (f_schema_pick_Value : FuncId) : AFunc := ⟨8, [.tmp 4],
  (.seq
  (.region [
    ⟨(some 4), .move (.c .nil), none⟩])
  (.seq
  (.region [
    ⟨(some 5), .move (.t 0), none⟩,
    ⟨(some 6), .move (.t 1), none⟩,
    ⟨(some 7), .call f_schema_pick_Value [(.t 5), (.t 6)], none⟩,
    ⟨(some 4), .move (.t 7), none⟩])
  .ret))⟩

/-- schema_Pick, and what it calls. -/
structure F_schema_Pick (P : Program) where
  id : FuncId
  schema_pick_Value : F_schema_pick_Value P
  has : Has P id [] (c_schema_Pick schema_pick_Value.id)

/-- The code of warehouseref5_Pick. -/
def c_warehouseref5_Pick : AFunc := ⟨41, [.tmp 4],
  (.seq
  (.region [
    ⟨(some 4), .move (.c .nil), none⟩])
  (.seq
  (.region [
    ⟨(some 7), .move (.t 1), none⟩,
    ⟨(some 8), .len (.t 7), none⟩,
    ⟨(some 9), .mkSlice 3 32 [(.int .i64 0), (.int .i64 0), (.str (bs []))] (.t 8) (.t 8), none⟩,
    ⟨(some 5), .move (.t 9), none⟩])
  (.seq
  (.seq
  (.region [
    ⟨(some 6), .move (.c (.int .i64 0)), none⟩])
  (.block 0
    (.loop
      (.seq
      (.seq
      (.region [
        ⟨(some 10), .move (.t 6), none⟩,
        ⟨(some 11), .move (.t 1), none⟩,
        ⟨(some 12), .len (.t 11), none⟩,
        ⟨(some 13), .bin .lss (.t 10) (.t 12), none⟩])
      (.cond (.t 13)
        .skip
        (.exit 0)))
      (.seq
      (.block 1
        (.seq
        (.region [
          ⟨(some 16), .move (.t 1), none⟩,
          ⟨(some 17), .move (.t 6), none⟩,
          ⟨(some 18), .indexAddr 1 (.t 16) (.t 17), none⟩,
          ⟨(some 19), .load false 1 (.t 18), none⟩,
          ⟨(some 20), .bin .geq (.t 19) (.c (.int .i64 0)), none⟩,
          ⟨(some 21), .move (.t 20), none⟩,
          ⟨(some 22), .move (.t 1), some (some 21, true)⟩,
          ⟨(some 23), .move (.t 6), some (some 21, true)⟩,
          ⟨(some 24), .indexAddr 1 (.t 22) (.t 23), some (some 21, true)⟩,
          ⟨(some 25), .load false 1 (.t 24), some (some 21, true)⟩,
          ⟨(some 26), .move (.t 0), some (some 21, true)⟩,
          ⟨(some 27), .len (.t 26), some (some 21, true)⟩,
          ⟨(some 28), .bin .lss (.t 25) (.t 27), some (some 21, true)⟩,
          ⟨(some 29), .pick (.t 21) (.t 28) (.c (.bool false)), none⟩])
        (.cond (.t 29)
          (.region [
            ⟨(some 30), .move (.t 5), none⟩,
            ⟨(some 31), .move (.t 6), none⟩,
            ⟨(some 32), .move (.t 0), none⟩,
            ⟨(some 33), .move (.t 1), none⟩,
            ⟨(some 34), .move (.t 6), none⟩,
            ⟨(some 35), .indexAddr 1 (.t 33) (.t 34), none⟩,
            ⟨(some 36), .load false 1 (.t 35), none⟩,
            ⟨(some 37), .indexAddr 3 (.t 32) (.t 36), none⟩,
            ⟨(some 38), .load true 3 (.t 37), none⟩,
            ⟨(some 39), .indexAddr 3 (.t 30) (.t 31), none⟩,
            ⟨none, .store 3 (.t 39) (.t 38), none⟩])
          .skip)))
      (.region [
        ⟨(some 14), .move (.t 6), none⟩,
        ⟨(some 15), .bin .add (.t 14) (.c (.int .i64 1)), none⟩,
        ⟨(some 6), .move (.t 15), none⟩]))))))
  (.seq
  (.region [
    ⟨(some 40), .move (.t 5), none⟩,
    ⟨(some 4), .move (.t 40), none⟩])
  .ret))))⟩

/-- warehouseref5_Pick, and what it calls. -/
structure F_warehouseref5_Pick (P : Program) where
  id : FuncId
  has : Has P id [] c_warehouseref5_Pick

/-- The code of schema_pick_Column. -/
def c_schema_pick_Column : AFunc := ⟨35, [.tmp 4],
  (.seq
  (.region [
    ⟨(some 4), .move (.c .nil), none⟩])
  (.seq
  (.region [
    ⟨(some 8), .move (.t 1), none⟩,
    ⟨(some 9), .len (.t 8), none⟩,
    ⟨(some 10), .mkSlice 3 32 [(.str (bs [])), (.int .i64 0), (.bool false)] (.t 9) (.t 9), none⟩,
    ⟨(some 5), .move (.t 10), none⟩])
  (.seq
  (.seq
  (.region [
    ⟨(some 11), .move (.t 1), none⟩,
    ⟨(some 12), .len (.t 11), none⟩,
    ⟨(some 13), .move (.c (.int .i64 0)), none⟩])
  (.block 0
    (.loop
      (.seq
      (.region [
        ⟨(some 14), .bin .lss (.t 13) (.t 12), none⟩])
      (.seq
      (.cond (.t 14)
        .skip
        (.exit 0))
      (.seq
      (.block 1
        (.seq
        (.region [
          ⟨(some 15), .move (.t 13), none⟩,
          ⟨(some 16), .indexAddr 1 (.t 11) (.t 13), none⟩,
          ⟨(some 17), .load false 1 (.t 16), none⟩,
          ⟨(some 6), .move (.t 15), none⟩,
          ⟨(some 7), .move (.t 17), none⟩])
        (.seq
        (.region [
          ⟨(some 18), .move (.t 7), none⟩,
          ⟨(some 19), .bin .geq (.t 18) (.c (.int .i64 0)), none⟩,
          ⟨(some 20), .move (.t 19), none⟩,
          ⟨(some 21), .move (.t 7), some (some 20, true)⟩,
          ⟨(some 22), .move (.t 0), some (some 20, true)⟩,
          ⟨(some 23), .len (.t 22), some (some 20, true)⟩,
          ⟨(some 24), .bin .lss (.t 21) (.t 23), some (some 20, true)⟩,
          ⟨(some 25), .pick (.t 20) (.t 24) (.c (.bool false)), none⟩])
        (.cond (.t 25)
          (.region [
            ⟨(some 26), .move (.t 5), none⟩,
            ⟨(some 27), .move (.t 6), none⟩,
            ⟨(some 28), .move (.t 0), none⟩,
            ⟨(some 29), .move (.t 7), none⟩,
            ⟨(some 30), .indexAddr 3 (.t 28) (.t 29), none⟩,
            ⟨(some 31), .load true 3 (.t 30), none⟩,
            ⟨(some 32), .indexAddr 3 (.t 26) (.t 27), none⟩,
            ⟨none, .store 3 (.t 32) (.t 31), none⟩])
          .skip))))
      (.region [
        ⟨(some 33), .bin .add (.t 13) (.c (.int .i64 1)), none⟩,
        ⟨(some 13), .move (.t 33), none⟩])))))))
  (.seq
  (.region [
    ⟨(some 34), .move (.t 5), none⟩,
    ⟨(some 4), .move (.t 34), none⟩])
  .ret))))⟩

/-- schema_pick_Column, and what it calls. -/
structure F_schema_pick_Column (P : Program) where
  id : FuncId
  has : Has P id [] c_schema_pick_Column

/-- The code of schema_Select. -/
def c_schema_Select (f_schema_pick_Column : FuncId) : AFunc := ⟨8, [.tmp 4],
  (.seq
  (.region [
    ⟨(some 4), .move (.c .nil), none⟩])
  (.seq
  (.region [
    ⟨(some 5), .move (.t 0), none⟩,
    ⟨(some 6), .move (.t 1), none⟩,
    ⟨(some 7), .call f_schema_pick_Column [(.t 5), (.t 6)], none⟩,
    ⟨(some 4), .move (.t 7), none⟩])
  .ret))⟩

/-- schema_Select, and what it calls. -/
structure F_schema_Select (P : Program) where
  id : FuncId
  schema_pick_Column : F_schema_pick_Column P
  has : Has P id [] (c_schema_Select schema_pick_Column.id)

/-- The code of warehouseref5_Select. -/
def c_warehouseref5_Select : AFunc := ⟨41, [.tmp 4],
  (.seq
  (.region [
    ⟨(some 4), .move (.c .nil), none⟩])
  (.seq
  (.region [
    ⟨(some 7), .move (.t 1), none⟩,
    ⟨(some 8), .len (.t 7), none⟩,
    ⟨(some 9), .mkSlice 3 32 [(.str (bs [])), (.int .i64 0), (.bool false)] (.t 8) (.t 8), none⟩,
    ⟨(some 5), .move (.t 9), none⟩])
  (.seq
  (.seq
  (.region [
    ⟨(some 6), .move (.c (.int .i64 0)), none⟩])
  (.block 0
    (.loop
      (.seq
      (.seq
      (.region [
        ⟨(some 10), .move (.t 6), none⟩,
        ⟨(some 11), .move (.t 1), none⟩,
        ⟨(some 12), .len (.t 11), none⟩,
        ⟨(some 13), .bin .lss (.t 10) (.t 12), none⟩])
      (.cond (.t 13)
        .skip
        (.exit 0)))
      (.seq
      (.block 1
        (.seq
        (.region [
          ⟨(some 16), .move (.t 1), none⟩,
          ⟨(some 17), .move (.t 6), none⟩,
          ⟨(some 18), .indexAddr 1 (.t 16) (.t 17), none⟩,
          ⟨(some 19), .load false 1 (.t 18), none⟩,
          ⟨(some 20), .bin .geq (.t 19) (.c (.int .i64 0)), none⟩,
          ⟨(some 21), .move (.t 20), none⟩,
          ⟨(some 22), .move (.t 1), some (some 21, true)⟩,
          ⟨(some 23), .move (.t 6), some (some 21, true)⟩,
          ⟨(some 24), .indexAddr 1 (.t 22) (.t 23), some (some 21, true)⟩,
          ⟨(some 25), .load false 1 (.t 24), some (some 21, true)⟩,
          ⟨(some 26), .move (.t 0), some (some 21, true)⟩,
          ⟨(some 27), .len (.t 26), some (some 21, true)⟩,
          ⟨(some 28), .bin .lss (.t 25) (.t 27), some (some 21, true)⟩,
          ⟨(some 29), .pick (.t 21) (.t 28) (.c (.bool false)), none⟩])
        (.cond (.t 29)
          (.region [
            ⟨(some 30), .move (.t 5), none⟩,
            ⟨(some 31), .move (.t 6), none⟩,
            ⟨(some 32), .move (.t 0), none⟩,
            ⟨(some 33), .move (.t 1), none⟩,
            ⟨(some 34), .move (.t 6), none⟩,
            ⟨(some 35), .indexAddr 1 (.t 33) (.t 34), none⟩,
            ⟨(some 36), .load false 1 (.t 35), none⟩,
            ⟨(some 37), .indexAddr 3 (.t 32) (.t 36), none⟩,
            ⟨(some 38), .load true 3 (.t 37), none⟩,
            ⟨(some 39), .indexAddr 3 (.t 30) (.t 31), none⟩,
            ⟨none, .store 3 (.t 39) (.t 38), none⟩])
          .skip)))
      (.region [
        ⟨(some 14), .move (.t 6), none⟩,
        ⟨(some 15), .bin .add (.t 14) (.c (.int .i64 1)), none⟩,
        ⟨(some 6), .move (.t 15), none⟩]))))))
  (.seq
  (.region [
    ⟨(some 40), .move (.t 5), none⟩,
    ⟨(some 4), .move (.t 40), none⟩])
  .ret))))⟩

/-- warehouseref5_Select, and what it calls. -/
structure F_warehouseref5_Select (P : Program) where
  id : FuncId
  has : Has P id [] c_warehouseref5_Select

/-- The code of warehouseref5_Equal. -/
def c_warehouseref5_Equal : AFunc := ⟨26, [.tmp 4],
  (.seq
  (.region [
    ⟨(some 4), .move (.c (.bool false)), none⟩])
  (.seq
  (.seq
  (.region [
    ⟨(some 6), .move (.t 0), none⟩,
    ⟨(some 7), .len (.t 6), none⟩,
    ⟨(some 8), .move (.t 1), none⟩,
    ⟨(some 9), .len (.t 8), none⟩,
    ⟨(some 10), .bin .neq (.t 7) (.t 9), none⟩])
  (.cond (.t 10)
    (.seq
    (.region [
      ⟨(some 4), .move (.c (.bool false)), none⟩])
    .ret)
    .skip))
  (.seq
  (.seq
  (.region [
    ⟨(some 5), .move (.c (.int .i64 0)), none⟩])
  (.block 0
    (.loop
      (.seq
      (.seq
      (.region [
        ⟨(some 11), .move (.t 5), none⟩,
        ⟨(some 12), .move (.t 0), none⟩,
        ⟨(some 13), .len (.t 12), none⟩,
        ⟨(some 14), .bin .lss (.t 11) (.t 13), none⟩])
      (.cond (.t 14)
        .skip
        (.exit 0)))
      (.seq
      (.block 1
        (.seq
        (.draw [
          (⟨(some 17), .move (.t 0), none⟩, []),
          (⟨(some 18), .move (.t 5), none⟩, []),
          (⟨(some 19), .indexAddr 3 (.t 17) (.t 18), none⟩, []),
          (⟨(some 20), .load true 3 (.t 19), none⟩, []),
          (⟨(some 21), .move (.t 1), none⟩, []),
          (⟨(some 22), .move (.t 5), none⟩, []),
          (⟨(some 23), .indexAddr 3 (.t 21) (.t 22), none⟩, []),
          (⟨(some 24), .load true 3 (.t 23), none⟩, []),
          (⟨(some 25), .eqs true [2, 1, 0] (.t 20) (.t 24), none⟩, [])])
        (.cond (.t 25)
          (.seq
          (.region [
            ⟨(some 4), .move (.c (.bool false)), none⟩])
          .ret)
          .skip)))
      (.region [
        ⟨(some 15), .move (.t 5), none⟩,
        ⟨(some 16), .bin .add (.t 15) (.c (.int .i64 1)), none⟩,
        ⟨(some 5), .move (.t 16), none⟩]))))))
  (.seq
  (.region [
    ⟨(some 4), .move (.c (.bool true)), none⟩])
  .ret))))⟩

/-- warehouseref5_Equal, and what it calls. -/
structure F_warehouseref5_Equal (P : Program) where
  id : FuncId
  has : Has P id [] c_warehouseref5_Equal

/-- The code of warehouselaw5_SchemaPicks. -/
def c_warehouselaw5_SchemaPicks (f_warehouselaw5_known : FuncId) (f_schema_Pick : FuncId) (f_warehouseref5_Pick : FuncId) (f_warehouseref1_SameRow : FuncId) (f_schema_Select : FuncId) (f_warehouseref5_Select : FuncId) (f_warehouseref5_Equal : FuncId) : AFunc := ⟨131, [.tmp 8],
  (.seq
  (.region [
    ⟨(some 8), .move (.c (.bool false)), none⟩])
  (.seq
  (.seq
  (.region [
    ⟨(some 15), .move (.t 0), none⟩,
    ⟨(some 16), .len (.t 15), none⟩,
    ⟨(some 17), .bin .gtr (.t 16) (.c (.int .i64 50)), none⟩,
    ⟨(some 18), .move (.t 17), none⟩,
    ⟨(some 19), .move (.t 1), some (some 18, false)⟩,
    ⟨(some 20), .len (.t 19), some (some 18, false)⟩,
    ⟨(some 21), .bin .gtr (.t 20) (.c (.int .i64 50)), some (some 18, false)⟩,
    ⟨(some 22), .pick (.t 18) (.c (.bool true)) (.t 21), none⟩,
    ⟨(some 23), .move (.t 22), none⟩,
    ⟨(some 24), .move (.t 2), some (some 23, false)⟩,
    ⟨(some 25), .len (.t 24), some (some 23, false)⟩,
    ⟨(some 26), .bin .gtr (.t 25) (.c (.int .i64 50)), some (some 23, false)⟩,
    ⟨(some 27), .pick (.t 23) (.c (.bool true)) (.t 26), none⟩,
    ⟨(some 28), .move (.t 27), none⟩,
    ⟨(some 29), .move (.t 3), some (some 28, false)⟩,
    ⟨(some 30), .len (.t 29), some (some 28, false)⟩,
    ⟨(some 31), .bin .gtr (.t 30) (.c (.int .i64 50)), some (some 28, false)⟩,
    ⟨(some 32), .pick (.t 28) (.c (.bool true)) (.t 31), none⟩])
  (.cond (.t 32)
    (.seq
    (.region [
      ⟨(some 33), .call f_warehouselaw5_known [], none⟩,
      ⟨(some 8), .move (.t 33), none⟩])
    .ret)
    .skip))
  (.seq
  (.region [
    ⟨(some 9), .move (.c .nil), none⟩])
  (.seq
  (.seq
  (.region [
    ⟨(some 10), .move (.c (.int .i64 0)), none⟩])
  (.block 0
    (.loop
      (.seq
      (.seq
      (.seq
      (.region [
        ⟨(some 34), .move (.t 10), none⟩,
        ⟨(some 35), .move (.t 3), none⟩,
        ⟨(some 36), .len (.t 35), none⟩,
        ⟨(some 37), .bin .lss (.t 34) (.t 36), none⟩])
      .ghost)
      (.cond (.t 37)
        .skip
        (.exit 0)))
      (.seq
      (.block 1
        (.region [
          ⟨(some 40), .move (.t 9), none⟩,
          ⟨(some 41), .move (.t 3), none⟩,
          ⟨(some 42), .move (.t 10), none⟩,
          ⟨(some 43), .indexAddr 1 (.t 41) (.t 42), none⟩,
          ⟨(some 44), .load false 1 (.t 43), none⟩,
          ⟨(some 45), .bin .rem (.t 44) (.c (.int .i64 16)), none⟩,
          ⟨(some 46), .buildSlice 1 1 [(.int .i64 0)] [(0, (.t 45))], none⟩,
          ⟨(some 47), .append 1 8 [(.int .i64 0)] (.t 40) (.t 46), none⟩,
          ⟨(some 9), .move (.t 47), none⟩]))
      (.region [
        ⟨(some 38), .move (.t 10), none⟩,
        ⟨(some 39), .bin .add (.t 38) (.c (.int .i64 1)), none⟩,
        ⟨(some 10), .move (.t 39), none⟩]))))))
  (.seq
  (.region [
    ⟨(some 48), .move (.t 0), none⟩,
    ⟨(some 49), .move (.t 9), none⟩,
    ⟨(some 50), .call f_schema_Pick [(.t 48), (.t 49)], none⟩,
    ⟨(some 11), .move (.t 50), none⟩])
  (.seq
  (.seq
  (.region [
    ⟨(some 51), .move (.t 11), none⟩,
    ⟨(some 52), .len (.t 51), none⟩,
    ⟨(some 53), .move (.t 9), none⟩,
    ⟨(some 54), .len (.t 53), none⟩,
    ⟨(some 55), .bin .neq (.t 52) (.t 54), none⟩])
  (.cond (.t 55)
    (.seq
    (.region [
      ⟨(some 8), .move (.c (.bool false)), none⟩])
    .ret)
    .skip))
  (.seq
  (.region [
    ⟨(some 12), .move (.c .nil), none⟩])
  (.seq
  (.seq
  (.region [
    ⟨(some 13), .move (.c (.int .i64 0)), none⟩])
  (.block 2
    (.loop
      (.seq
      (.seq
      (.seq
      (.region [
        ⟨(some 56), .move (.t 13), none⟩,
        ⟨(some 57), .move (.t 9), none⟩,
        ⟨(some 58), .len (.t 57), none⟩,
        ⟨(some 59), .bin .lss (.t 56) (.t 58), none⟩])
      .ghost)
      (.cond (.t 59)
        .skip
        (.exit 2)))
      (.seq
      (.block 3
        (.seq
        (.region [
          ⟨(some 14), .move (.c (.int .i64 (-1))), none⟩])
        (.seq
        (.seq
        (.region [
          ⟨(some 62), .move (.t 9), none⟩,
          ⟨(some 63), .move (.t 13), none⟩,
          ⟨(some 64), .indexAddr 1 (.t 62) (.t 63), none⟩,
          ⟨(some 65), .load false 1 (.t 64), none⟩,
          ⟨(some 66), .bin .geq (.t 65) (.c (.int .i64 0)), none⟩,
          ⟨(some 67), .move (.t 66), none⟩,
          ⟨(some 68), .move (.t 9), some (some 67, true)⟩,
          ⟨(some 69), .move (.t 13), some (some 67, true)⟩,
          ⟨(some 70), .indexAddr 1 (.t 68) (.t 69), some (some 67, true)⟩,
          ⟨(some 71), .load false 1 (.t 70), some (some 67, true)⟩,
          ⟨(some 72), .move (.t 9), some (some 67, true)⟩,
          ⟨(some 73), .len (.t 72), some (some 67, true)⟩,
          ⟨(some 74), .bin .lss (.t 71) (.t 73), some (some 67, true)⟩,
          ⟨(some 75), .pick (.t 67) (.t 74) (.c (.bool false)), none⟩])
        (.cond (.t 75)
          (.region [
            ⟨(some 76), .move (.t 9), none⟩,
            ⟨(some 77), .move (.t 9), none⟩,
            ⟨(some 78), .move (.t 13), none⟩,
            ⟨(some 79), .indexAddr 1 (.t 77) (.t 78), none⟩,
            ⟨(some 80), .load false 1 (.t 79), none⟩,
            ⟨(some 81), .indexAddr 1 (.t 76) (.t 80), none⟩,
            ⟨(some 82), .load false 1 (.t 81), none⟩,
            ⟨(some 14), .move (.t 82), none⟩])
          .skip))
        (.region [
          ⟨(some 83), .move (.t 12), none⟩,
          ⟨(some 84), .move (.t 14), none⟩,
          ⟨(some 85), .buildSlice 1 1 [(.int .i64 0)] [(0, (.t 84))], none⟩,
          ⟨(some 86), .append 1 8 [(.int .i64 0)] (.t 83) (.t 85), none⟩,
          ⟨(some 12), .move (.t 86), none⟩]))))
      (.region [
        ⟨(some 60), .move (.t 13), none⟩,
        ⟨(some 61), .bin .add (.t 60) (.c (.int .i64 1)), none⟩,
        ⟨(some 13), .move (.t 61), none⟩]))))))
  (.seq
  (.region [
    ⟨(some 87), .move (.t 0), none⟩,
    ⟨(some 88), .move (.t 2), none⟩,
    ⟨(some 89), .call f_schema_Pick [(.t 87), (.t 88)], none⟩,
    ⟨(some 90), .move (.t 0), none⟩,
    ⟨(some 91), .move (.t 2), none⟩,
    ⟨(some 92), .call f_warehouseref5_Pick [(.t 90), (.t 91)], none⟩,
    ⟨(some 93), .call f_warehouseref1_SameRow [(.t 89), (.t 92)], none⟩,
    ⟨(some 94), .move (.t 93), none⟩,
    ⟨(some 95), .move (.t 11), some (some 94, true)⟩,
    ⟨(some 96), .move (.t 0), some (some 94, true)⟩,
    ⟨(some 97), .move (.t 9), some (some 94, true)⟩,
    ⟨(some 98), .call f_warehouseref5_Pick [(.t 96), (.t 97)], some (some 94, true)⟩,
    ⟨(some 99), .call f_warehouseref1_SameRow [(.t 95), (.t 98)], some (some 94, true)⟩,
    ⟨(some 100), .pick (.t 94) (.t 99) (.c (.bool false)), none⟩,
    ⟨(some 101), .move (.t 100), none⟩,
    ⟨(some 102), .move (.t 11), some (some 101, true)⟩,
    ⟨(some 103), .move (.t 9), some (some 101, true)⟩,
    ⟨(some 104), .call f_schema_Pick [(.t 102), (.t 103)], some (some 101, true)⟩,
    ⟨(some 105), .move (.t 0), some (some 101, true)⟩,
    ⟨(some 106), .move (.t 12), some (some 101, true)⟩,
    ⟨(some 107), .call f_schema_Pick [(.t 105), (.t 106)], some (some 101, true)⟩,
    ⟨(some 108), .call f_warehouseref1_SameRow [(.t 104), (.t 107)], some (some 101, true)⟩,
    ⟨(some 109), .pick (.t 101) (.t 108) (.c (.bool false)), none⟩,
    ⟨(some 110), .move (.t 109), none⟩,
    ⟨(some 111), .move (.t 1), some (some 110, true)⟩,
    ⟨(some 112), .move (.t 9), some (some 110, true)⟩,
    ⟨(some 113), .call f_schema_Select [(.t 111), (.t 112)], some (some 110, true)⟩,
    ⟨(some 114), .move (.t 1), some (some 110, true)⟩,
    ⟨(some 115), .move (.t 9), some (some 110, true)⟩,
    ⟨(some 116), .call f_warehouseref5_Select [(.t 114), (.t 115)], some (some 110, true)⟩,
    ⟨(some 117), .call f_warehouseref5_Equal [(.t 113), (.t 116)], some (some 110, true)⟩,
    ⟨(some 118), .pick (.t 110) (.t 117) (.c (.bool false)), none⟩,
    ⟨(some 119), .move (.t 118), none⟩,
    ⟨(some 120), .move (.t 1), some (some 119, true)⟩,
    ⟨(some 121), .move (.t 2), some (some 119, true)⟩,
    ⟨(some 122), .call f_schema_Select [(.t 120), (.t 121)], some (some 119, true)⟩,
    ⟨(some 123), .move (.t 1), some (some 119, true)⟩,
    ⟨(some 124), .move (.t 2), some (some 119, true)⟩,
    ⟨(some 125), .call f_warehouseref5_Select [(.t 123), (.t 124)], some (some 119, true)⟩,
    ⟨(some 126), .call f_warehouseref5_Equal [(.t 122), (.t 125)], some (some 119, true)⟩,
    ⟨(some 127), .pick (.t 119) (.t 126) (.c (.bool false)), none⟩,
    ⟨(some 128), .move (.t 127), none⟩,
    ⟨(some 129), .call f_warehouselaw5_known [], some (some 128, true)⟩,
    ⟨(some 130), .pick (.t 128) (.t 129) (.c (.bool false)), none⟩,
    ⟨(some 8), .move (.t 130), none⟩])
  .ret)))))))))⟩

/-- warehouselaw5_SchemaPicks, and what it calls. -/
structure F_warehouselaw5_SchemaPicks (P : Program) where
  id : FuncId
  warehouselaw5_known : F_warehouselaw5_known P
  schema_Pick : F_schema_Pick P
  warehouseref5_Pick : F_warehouseref5_Pick P
  warehouseref1_SameRow : F_warehouseref1_SameRow P
  schema_Select : F_schema_Select P
  warehouseref5_Select : F_warehouseref5_Select P
  warehouseref5_Equal : F_warehouseref5_Equal P
  has : Has P id [100037, 100059] (c_warehouselaw5_SchemaPicks warehouselaw5_known.id schema_Pick.id warehouseref5_Pick.id warehouseref1_SameRow.id schema_Select.id warehouseref5_Select.id warehouseref5_Equal.id)

/-- The code of schema_Validate. -/
def c_schema_Validate (f_schema_IsName : FuncId) (f_schema_Index : FuncId) : AFunc := ⟨42, [.tmp 2],
  (.seq
  (.region [
    ⟨(some 2), .move (.c (.int .i64 0)), none⟩])
  (.seq
  (.seq
  (.region [
    ⟨(some 5), .move (.t 0), none⟩,
    ⟨(some 6), .len (.t 5), none⟩,
    ⟨(some 7), .bin .lss (.t 6) (.c (.int .i64 1)), none⟩,
    ⟨(some 8), .move (.t 7), none⟩,
    ⟨(some 9), .move (.t 0), some (some 8, false)⟩,
    ⟨(some 10), .len (.t 9), some (some 8, false)⟩,
    ⟨(some 11), .bin .gtr (.t 10) (.c (.int .i64 12)), some (some 8, false)⟩,
    ⟨(some 12), .pick (.t 8) (.c (.bool true)) (.t 11), none⟩])
  (.cond (.t 12)
    (.seq
    (.region [
      ⟨(some 2), .move (.c (.int .i64 2)), none⟩])
    .ret)
    .skip))
  (.seq
  (.seq
  (.region [
    ⟨(some 13), .move (.t 0), none⟩,
    ⟨(some 14), .len (.t 13), none⟩,
    ⟨(some 15), .move (.c (.int .i64 0)), none⟩])
  (.block 0
    (.loop
      (.seq
      (.region [
        ⟨(some 16), .bin .lss (.t 15) (.t 14), none⟩])
      (.seq
      (.cond (.t 16)
        .skip
        (.exit 0))
      (.seq
      (.block 1
        (.seq
        (.region [
          ⟨(some 17), .move (.t 15), none⟩,
          ⟨(some 18), .indexAddr 3 (.t 13) (.t 15), none⟩,
          ⟨(some 19), .load true 3 (.t 18), none⟩,
          ⟨(some 4), .alloc [(.str (bs [])), (.int .i64 0), (.bool false)], none⟩,
          ⟨(some 3), .move (.t 17), none⟩,
          ⟨none, .store 3 (.t 4) (.t 19), none⟩])
        (.block 2
          (.seq
          (.region [
            ⟨(some 21), .fieldAddr 0 (.t 4), none⟩,
            ⟨(some 22), .load false 1 (.t 21), none⟩,
            ⟨(some 23), .call f_schema_IsName [(.t 22)], none⟩,
            ⟨(some 24), .un .not (.t 23), none⟩,
            ⟨(some 20), .move (.t 24), none⟩])
          (.cond (.t 20)
            (.seq
            (.region [
              ⟨(some 2), .move (.c (.int .i64 4)), none⟩])
            .ret)
            (.seq
            (.region [
              ⟨(some 26), .fieldAddr 1 (.t 4), none⟩,
              ⟨(some 27), .load false 1 (.t 26), none⟩,
              ⟨(some 28), .bin .lss (.t 27) (.c (.int .i64 1)), none⟩,
              ⟨(some 29), .move (.t 28), none⟩,
              ⟨(some 30), .fieldAddr 1 (.t 4), some (some 29, false)⟩,
              ⟨(some 31), .load false 1 (.t 30), some (some 29, false)⟩,
              ⟨(some 32), .bin .gtr (.t 31) (.c (.int .i64 4)), some (some 29, false)⟩,
              ⟨(some 33), .pick (.t 29) (.c (.bool true)) (.t 32), none⟩,
              ⟨(some 25), .move (.t 33), none⟩])
            (.cond (.t 25)
              (.seq
              (.region [
                ⟨(some 2), .move (.c (.int .i64 7)), none⟩])
              .ret)
              (.seq
              (.region [
                ⟨(some 35), .move (.t 0), none⟩,
                ⟨(some 36), .fieldAddr 0 (.t 4), none⟩,
                ⟨(some 37), .load false 1 (.t 36), none⟩,
                ⟨(some 38), .call f_schema_Index [(.t 35), (.t 37)], none⟩,
                ⟨(some 39), .move (.t 3), none⟩,
                ⟨(some 40), .bin .lss (.t 38) (.t 39), none⟩,
                ⟨(some 34), .move (.t 40), none⟩])
              (.cond (.t 34)
                (.seq
                (.region [
                  ⟨(some 2), .move (.c (.int .i64 6)), none⟩])
                .ret)
                .skip)))))))))
      (.region [
        ⟨(some 41), .bin .add (.t 15) (.c (.int .i64 1)), none⟩,
        ⟨(some 15), .move (.t 41), none⟩])))))))
  (.seq
  (.region [
    ⟨(some 2), .move (.c (.int .i64 0)), none⟩])
  .ret))))⟩

/-- schema_Validate, and what it calls. -/
structure F_schema_Validate (P : Program) where
  id : FuncId
  schema_IsName : F_schema_IsName P
  schema_Index : F_schema_Index P
  has : Has P id [] (c_schema_Validate schema_IsName.id schema_Index.id)


end Go.AW
