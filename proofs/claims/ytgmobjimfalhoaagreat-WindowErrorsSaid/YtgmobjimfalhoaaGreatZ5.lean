/-
  An abstract machine over the model, the code of functions on it, and their contracts: what the claim needs.
  No condition: definitions, plain laws, contracts over any program that has this code.
-/
import Derived.Test.YtgmobjimfalhoaaGreatZ4
set_option linter.all false
namespace Go.AW
def c_window_cell (f_schema_Pick : FuncId) : AFunc := ⟨11, [.cell true 3 4],
  (.seq
  (.region [
    ⟨(some 4), .alloc [(.int .i64 0), (.int .i64 0), (.str (bs []))], none⟩])
  (.seq
  (.region [
    ⟨(some 5), .move (.t 0), none⟩,
    ⟨(some 6), .move (.t 1), none⟩,
    ⟨(some 7), .buildSlice 1 1 [(.int .i64 0)] [(0, (.t 6))], none⟩,
    ⟨(some 8), .call f_schema_Pick [(.t 5), (.t 7)], none⟩,
    ⟨(some 9), .indexAddr 3 (.t 8) (.c (.int .i64 0)), none⟩,
    ⟨(some 10), .load true 3 (.t 9), none⟩,
    ⟨none, .store 3 (.t 4) (.t 10), none⟩])
  .ret))⟩

structure F_window_cell (P : Program) where
  id : FuncId
  schema_Pick : F_schema_Pick P
  has : Has P id [] (c_window_cell schema_Pick.id)

def c_window_check (f_window_cell : FuncId) : AFunc := ⟨86, [.tmp 6],
  (.seq
  (.region [
    ⟨(some 6), .move (.c (.int .i64 0)), none⟩])
  (.seq
  (.seq
  (.region [
    ⟨(some 12), .move (.t 0), none⟩,
    ⟨(some 13), .len (.t 12), none⟩,
    ⟨(some 14), .move (.t 1), none⟩,
    ⟨(some 15), .len (.t 14), none⟩,
    ⟨(some 16), .bin .neq (.t 13) (.t 15), none⟩])
  (.cond (.t 16)
    (.seq
    (.region [
      ⟨(some 6), .move (.c (.int .i64 8)), none⟩])
    .ret)
    .skip))
  (.seq
  (.seq
  (.region [
    ⟨(some 17), .move (.t 0), none⟩,
    ⟨(some 18), .len (.t 17), none⟩,
    ⟨(some 19), .move (.c (.int .i64 0)), none⟩])
  (.block 0
    (.loop
      (.seq
      (.region [
        ⟨(some 20), .bin .lss (.t 19) (.t 18), none⟩])
      (.seq
      (.cond (.t 20)
        .skip
        (.exit 0))
      (.seq
      (.block 1
        (.seq
        (.region [
          ⟨(some 21), .move (.t 19), none⟩,
          ⟨(some 22), .indexAddr 5 (.t 17) (.t 19), none⟩,
          ⟨(some 23), .load true 5 (.t 22), none⟩,
          ⟨(some 8), .alloc [(.str (bs [])), (.int .i64 0), (.str (bs [])), (.int .i64 0), .nil], none⟩,
          ⟨(some 7), .move (.t 21), none⟩,
          ⟨none, .store 5 (.t 8) (.t 23), none⟩])
        (.seq
        (.block 2
          (.seq
          (.region [
            ⟨(some 25), .fieldAddr 1 (.t 8), none⟩,
            ⟨(some 26), .load false 1 (.t 25), none⟩,
            ⟨(some 27), .bin .neq (.t 26) (.c (.int .i64 1)), none⟩,
            ⟨(some 28), .move (.t 27), none⟩,
            ⟨(some 29), .fieldAddr 1 (.t 8), some (some 28, true)⟩,
            ⟨(some 30), .load false 1 (.t 29), some (some 28, true)⟩,
            ⟨(some 31), .bin .neq (.t 30) (.c (.int .i64 3)), some (some 28, true)⟩,
            ⟨(some 32), .pick (.t 28) (.t 31) (.c (.bool false)), none⟩,
            ⟨(some 33), .move (.t 32), none⟩,
            ⟨(some 34), .fieldAddr 1 (.t 8), some (some 33, true)⟩,
            ⟨(some 35), .load false 1 (.t 34), some (some 33, true)⟩,
            ⟨(some 36), .bin .lss (.t 35) (.c (.int .i64 8)), some (some 33, true)⟩,
            ⟨(some 37), .move (.t 36), some (some 33, true)⟩,
            ⟨(some 38), .fieldAddr 1 (.t 8), some (some 37, false)⟩,
            ⟨(some 39), .load false 1 (.t 38), some (some 37, false)⟩,
            ⟨(some 40), .bin .gtr (.t 39) (.c (.int .i64 13)), some (some 37, false)⟩,
            ⟨(some 41), .pick (.t 37) (.c (.bool true)) (.t 40), some (some 33, true)⟩,
            ⟨(some 42), .pick (.t 33) (.t 41) (.c (.bool false)), none⟩,
            ⟨(some 24), .move (.t 42), none⟩])
          (.cond (.t 24)
            (.seq
            (.region [
              ⟨(some 6), .move (.c (.int .i64 8)), none⟩])
            .ret)
            (.seq
            (.region [
              ⟨(some 44), .fieldAddr 1 (.t 8), none⟩,
              ⟨(some 45), .load false 1 (.t 44), none⟩,
              ⟨(some 46), .bin .eql (.t 45) (.c (.int .i64 10)), none⟩,
              ⟨(some 47), .move (.t 46), none⟩,
              ⟨(some 48), .fieldAddr 1 (.t 8), some (some 47, false)⟩,
              ⟨(some 49), .load false 1 (.t 48), some (some 47, false)⟩,
              ⟨(some 50), .bin .eql (.t 49) (.c (.int .i64 11)), some (some 47, false)⟩,
              ⟨(some 51), .pick (.t 47) (.c (.bool true)) (.t 50), none⟩,
              ⟨(some 52), .move (.t 51), none⟩,
              ⟨(some 53), .fieldAddr 3 (.t 8), some (some 52, true)⟩,
              ⟨(some 54), .load false 1 (.t 53), some (some 52, true)⟩,
              ⟨(some 55), .bin .lss (.t 54) (.c (.int .i64 1)), some (some 52, true)⟩,
              ⟨(some 56), .move (.t 55), some (some 52, true)⟩,
              ⟨(some 57), .fieldAddr 3 (.t 8), some (some 56, false)⟩,
              ⟨(some 58), .load false 1 (.t 57), some (some 56, false)⟩,
              ⟨(some 59), .bin .gtr (.t 58) (.c (.int .i64 4096)), some (some 56, false)⟩,
              ⟨(some 60), .pick (.t 56) (.c (.bool true)) (.t 59), some (some 52, true)⟩,
              ⟨(some 61), .pick (.t 52) (.t 60) (.c (.bool false)), none⟩,
              ⟨(some 43), .move (.t 61), none⟩])
            (.cond (.t 43)
              (.seq
              (.region [
                ⟨(some 6), .move (.c (.int .i64 1)), none⟩])
              .ret)
              .skip)))))
        (.seq
        (.seq
        (.region [
          ⟨(some 62), .fieldAddr 1 (.t 8), none⟩,
          ⟨(some 63), .load false 1 (.t 62), none⟩,
          ⟨(some 64), .bin .neq (.t 63) (.c (.int .i64 3)), none⟩])
        (.cond (.t 64)
          (.exit 1)
          .skip))
        (.seq
        (.region [
          ⟨(some 65), .move (.t 2), none⟩,
          ⟨(some 66), .len (.t 65), none⟩,
          ⟨(some 67), .move (.c (.int .i64 0)), none⟩])
        (.block 3
          (.loop
            (.seq
            (.region [
              ⟨(some 68), .bin .lss (.t 67) (.t 66), none⟩])
            (.seq
            (.cond (.t 68)
              .skip
              (.exit 3))
            (.seq
            (.block 4
              (.seq
              (.region [
                ⟨(some 69), .indexAddr 1 (.t 65) (.t 67), none⟩,
                ⟨(some 70), .load false 1 (.t 69), none⟩,
                ⟨(some 10), .move (.t 70), none⟩])
              (.seq
              (.region [
                ⟨(some 71), .move (.t 10), none⟩,
                ⟨(some 72), .move (.t 1), none⟩,
                ⟨(some 73), .move (.t 7), none⟩,
                ⟨(some 74), .indexAddr 1 (.t 72) (.t 73), none⟩,
                ⟨(some 75), .load false 1 (.t 74), none⟩,
                ⟨(some 76), .call f_window_cell [(.t 71), (.t 75)], none⟩,
                ⟨(some 77), .field false 0 1 (.t 76), none⟩,
                ⟨(some 11), .move (.t 77), none⟩])
              (.seq
              (.region [
                ⟨(some 78), .move (.t 11), none⟩,
                ⟨(some 79), .bin .neq (.t 78) (.c (.int .i64 0)), none⟩,
                ⟨(some 80), .move (.t 79), none⟩,
                ⟨(some 81), .move (.t 11), some (some 80, true)⟩,
                ⟨(some 82), .bin .neq (.t 81) (.c (.int .i64 2)), some (some 80, true)⟩,
                ⟨(some 83), .pick (.t 80) (.t 82) (.c (.bool false)), none⟩])
              (.cond (.t 83)
                (.seq
                (.region [
                  ⟨(some 6), .move (.c (.int .i64 7)), none⟩])
                .ret)
                .skip)))))
            (.region [
              ⟨(some 84), .bin .add (.t 67) (.c (.int .i64 1)), none⟩,
              ⟨(some 67), .move (.t 84), none⟩])))))))))))
      (.region [
        ⟨(some 85), .bin .add (.t 19) (.c (.int .i64 1)), none⟩,
        ⟨(some 19), .move (.t 85), none⟩])))))))
  (.seq
  (.region [
    ⟨(some 6), .move (.c (.int .i64 0)), none⟩])
  .ret))))⟩

structure F_window_check (P : Program) where
  id : FuncId
  window_cell : F_window_cell P
  has : Has P id [] (c_window_check window_cell.id)

def c_window_fingerprint (f_value_Encode : FuncId) : AFunc := ⟨26, [.tmp 2],
  (.seq
  (.region [
    ⟨(some 2), .move (.c (.str (bs []))), none⟩])
  (.seq
  (.region [
    ⟨(some 3), .move (.c .nil), none⟩])
  (.seq
  (.seq
  (.region [
    ⟨(some 8), .move (.t 0), none⟩,
    ⟨(some 9), .len (.t 8), none⟩,
    ⟨(some 10), .move (.c (.int .i64 0)), none⟩])
  (.block 0
    (.loop
      (.seq
      (.region [
        ⟨(some 11), .bin .lss (.t 10) (.t 9), none⟩])
      (.seq
      (.cond (.t 11)
        .skip
        (.exit 0))
      (.seq
      (.block 1
        (.seq
        (.region [
          ⟨(some 12), .indexAddr 3 (.t 8) (.t 10), none⟩,
          ⟨(some 13), .load true 3 (.t 12), none⟩,
          ⟨(some 5), .alloc [(.int .i64 0), (.int .i64 0), (.str (bs []))], none⟩,
          ⟨none, .store 3 (.t 5) (.t 13), none⟩])
        (.seq
        (.region [
          ⟨(some 15), .load true 3 (.t 5), none⟩,
          ⟨(some 16), .buildSlice 3 1 [(.int .i64 0), (.int .i64 0), (.str (bs []))] [(0, (.t 15))], none⟩,
          ⟨(some 17), .call f_value_Encode [(.t 16)], none⟩,
          ⟨(some 14), .move (.t 17), none⟩,
          ⟨(some 18), .extract (.t 14) 0, none⟩,
          ⟨(some 19), .extract (.t 14) 1, none⟩,
          ⟨(some 6), .move (.t 18), none⟩,
          ⟨(some 7), .move (.t 19), none⟩])
        (.region [
          ⟨(some 20), .move (.t 3), none⟩,
          ⟨(some 21), .move (.t 6), none⟩,
          ⟨(some 22), .append 1 1 [(.int .u8 0)] (.t 20) (.t 21), none⟩,
          ⟨(some 3), .move (.t 22), none⟩]))))
      (.region [
        ⟨(some 23), .bin .add (.t 10) (.c (.int .i64 1)), none⟩,
        ⟨(some 10), .move (.t 23), none⟩])))))))
  (.seq
  (.region [
    ⟨(some 24), .move (.t 3), none⟩,
    ⟨(some 25), .convBS (.t 24), none⟩,
    ⟨(some 2), .move (.t 25), none⟩])
  .ret))))⟩

structure F_window_fingerprint (P : Program) where
  id : FuncId
  value_Encode : F_value_Encode P
  has : Has P id [] (c_window_fingerprint value_Encode.id)

def c_window_partitions_1 (f_schema_Pick : FuncId) (f_value_CompareRows : FuncId) : AFunc := ⟨20, [.tmp 5],
  (.seq
  (.region [
    ⟨(some 5), .move (.c (.int .i64 0)), none⟩])
  (.seq
  (.seq
  (.draw [
    (⟨(some 7), .move (.t 0), none⟩, []),
    (⟨(some 8), .load false 1 (.t 2), none⟩, []),
    (⟨(some 9), .call f_schema_Pick [(.t 7), (.t 8)], none⟩, []),
    (⟨(some 10), .move (.t 1), none⟩, []),
    (⟨(some 11), .load false 1 (.t 2), none⟩, []),
    (⟨(some 12), .call f_schema_Pick [(.t 10), (.t 11)], none⟩, []),
    (⟨(some 13), .call f_value_CompareRows [(.t 9), (.t 12)], none⟩, []),
    (⟨(some 6), .move (.t 13), none⟩, [])])
  (.seq
  (.region [
    ⟨(some 14), .move (.t 6), none⟩,
    ⟨(some 15), .bin .neq (.t 14) (.c (.int .i64 0)), none⟩])
  (.cond (.t 15)
    (.seq
    (.region [
      ⟨(some 16), .move (.t 6), none⟩,
      ⟨(some 5), .move (.t 16), none⟩])
    .ret)
    .skip)))
  (.seq
  (.region [
    ⟨(some 17), .move (.t 0), none⟩,
    ⟨(some 18), .move (.t 1), none⟩,
    ⟨(some 19), .call f_value_CompareRows [(.t 17), (.t 18)], none⟩,
    ⟨(some 5), .move (.t 19), none⟩])
  .ret)))⟩

structure F_window_partitions_1 (P : Program) where
  id : FuncId
  schema_Pick : F_schema_Pick P
  value_CompareRows : F_value_CompareRows P
  has : Has P id [] (c_window_partitions_1 schema_Pick.id value_CompareRows.id)

def c_slices_insertionSortCmpFunc_LValue : AFunc := ⟨53, [],
  (.seq
  (.region [
    ⟨(some 10), .move (.t 1), none⟩,
    ⟨(some 11), .bin .add (.t 10) (.c (.int .i64 1)), none⟩,
    ⟨(some 8), .move (.t 11), none⟩])
  (.block 0
    (.loop
      (.seq
      (.seq
      (.region [
        ⟨(some 12), .move (.t 8), none⟩,
        ⟨(some 13), .move (.t 2), none⟩,
        ⟨(some 14), .bin .lss (.t 12) (.t 13), none⟩])
      (.cond (.t 14)
        .skip
        (.exit 0)))
      (.seq
      (.block 1
        (.seq
        (.region [
          ⟨(some 17), .move (.t 8), none⟩,
          ⟨(some 9), .move (.t 17), none⟩])
        (.block 2
          (.loop
            (.seq
            (.seq
            (.draw [
              (⟨(some 18), .move (.t 9), none⟩, []),
              (⟨(some 19), .move (.t 1), none⟩, []),
              (⟨(some 20), .bin .gtr (.t 18) (.t 19), none⟩, []),
              (⟨(some 21), .move (.t 20), none⟩, []),
              (⟨(some 22), .move (.t 3), some (some 21, true)⟩, []),
              (⟨(some 23), .move (.t 0), some (some 21, true)⟩, []),
              (⟨(some 24), .move (.t 9), some (some 21, true)⟩, []),
              (⟨(some 25), .indexAddr 1 (.t 23) (.t 24), some (some 21, true)⟩, []),
              (⟨(some 26), .load false 1 (.t 25), some (some 21, true)⟩, []),
              (⟨(some 27), .move (.t 0), some (some 21, true)⟩, []),
              (⟨(some 28), .move (.t 9), some (some 21, true)⟩, []),
              (⟨(some 29), .bin .sub (.t 28) (.c (.int .i64 1)), some (some 21, true)⟩, []),
              (⟨(some 30), .indexAddr 1 (.t 27) (.t 29), some (some 21, true)⟩, []),
              (⟨(some 31), .load false 1 (.t 30), some (some 21, true)⟩, []),
              (⟨(some 32), .callv (.t 22) [(.t 26), (.t 31)], some (some 21, true)⟩, []),
              (⟨(some 33), .bin .lss (.t 32) (.c (.int .i64 0)), some (some 21, true)⟩, []),
              (⟨(some 34), .pick (.t 21) (.t 33) (.c (.bool false)), none⟩, [])])
            (.cond (.t 34)
              .skip
              (.exit 2)))
            (.seq
            (.block 3
              (.draw [
                (⟨(some 37), .move (.t 0), none⟩, []),
                (⟨(some 38), .move (.t 9), none⟩, []),
                (⟨(some 39), .move (.t 0), none⟩, []),
                (⟨(some 40), .move (.t 9), none⟩, []),
                (⟨(some 41), .bin .sub (.t 40) (.c (.int .i64 1)), none⟩, []),
                (⟨(some 42), .move (.t 0), none⟩, []),
                (⟨(some 43), .move (.t 9), none⟩, []),
                (⟨(some 44), .bin .sub (.t 43) (.c (.int .i64 1)), none⟩, []),
                (⟨(some 45), .indexAddr 1 (.t 42) (.t 44), none⟩, []),
                (⟨(some 46), .load false 1 (.t 45), none⟩, []),
                (⟨(some 47), .move (.t 0), none⟩, []),
                (⟨(some 48), .move (.t 9), none⟩, []),
                (⟨(some 49), .indexAddr 1 (.t 47) (.t 48), none⟩, []),
                (⟨(some 50), .load false 1 (.t 49), none⟩, []),
                (⟨(some 51), .indexAddr 1 (.t 37) (.t 38), none⟩, []),
                (⟨none, .store 1 (.t 51) (.t 46), none⟩, []),
                (⟨(some 52), .indexAddr 1 (.t 39) (.t 41), none⟩, []),
                (⟨none, .store 1 (.t 52) (.t 50), none⟩, [])]))
            (.region [
              ⟨(some 35), .move (.t 9), none⟩,
              ⟨(some 36), .bin .sub (.t 35) (.c (.int .i64 1)), none⟩,
              ⟨(some 9), .move (.t 36), none⟩])))))))
      (.region [
        ⟨(some 15), .move (.t 8), none⟩,
        ⟨(some 16), .bin .add (.t 15) (.c (.int .i64 1)), none⟩,
        ⟨(some 8), .move (.t 16), none⟩]))))))⟩

structure F_slices_insertionSortCmpFunc_LValue (P : Program) where
  id : FuncId
  has : Has P id [] c_slices_insertionSortCmpFunc_LValue

def c_slices_siftDownCmpFunc_LValue : AFunc := ⟨82, [],
  (.seq
  (.region [
    ⟨(some 12), .move (.t 1), none⟩,
    ⟨(some 10), .move (.t 12), none⟩])
  (.block 0
    (.loop
      (.block 1
        (.seq
        (.region [
          ⟨(some 13), .move (.t 10), none⟩,
          ⟨(some 14), .bin .mul (.c (.int .i64 2)) (.t 13), none⟩,
          ⟨(some 15), .bin .add (.t 14) (.c (.int .i64 1)), none⟩,
          ⟨(some 11), .move (.t 15), none⟩])
        (.seq
        (.seq
        (.region [
          ⟨(some 16), .move (.t 11), none⟩,
          ⟨(some 17), .move (.t 2), none⟩,
          ⟨(some 18), .bin .geq (.t 16) (.t 17), none⟩])
        (.cond (.t 18)
          (.exit 0)
          .skip))
        (.seq
        (.seq
        (.draw [
          (⟨(some 19), .move (.t 11), none⟩, []),
          (⟨(some 20), .bin .add (.t 19) (.c (.int .i64 1)), none⟩, []),
          (⟨(some 21), .move (.t 2), none⟩, []),
          (⟨(some 22), .bin .lss (.t 20) (.t 21), none⟩, []),
          (⟨(some 23), .move (.t 22), none⟩, []),
          (⟨(some 24), .move (.t 4), some (some 23, true)⟩, []),
          (⟨(some 25), .move (.t 0), some (some 23, true)⟩, []),
          (⟨(some 26), .move (.t 3), some (some 23, true)⟩, []),
          (⟨(some 27), .move (.t 11), some (some 23, true)⟩, []),
          (⟨(some 28), .bin .add (.t 26) (.t 27), some (some 23, true)⟩, []),
          (⟨(some 29), .indexAddr 1 (.t 25) (.t 28), some (some 23, true)⟩, []),
          (⟨(some 30), .load false 1 (.t 29), some (some 23, true)⟩, []),
          (⟨(some 31), .move (.t 0), some (some 23, true)⟩, []),
          (⟨(some 32), .move (.t 3), some (some 23, true)⟩, []),
          (⟨(some 33), .move (.t 11), some (some 23, true)⟩, []),
          (⟨(some 34), .bin .add (.t 32) (.t 33), some (some 23, true)⟩, []),
          (⟨(some 35), .bin .add (.t 34) (.c (.int .i64 1)), some (some 23, true)⟩, []),
          (⟨(some 36), .indexAddr 1 (.t 31) (.t 35), some (some 23, true)⟩, []),
          (⟨(some 37), .load false 1 (.t 36), some (some 23, true)⟩, []),
          (⟨(some 38), .callv (.t 24) [(.t 30), (.t 37)], some (some 23, true)⟩, []),
          (⟨(some 39), .bin .lss (.t 38) (.c (.int .i64 0)), some (some 23, true)⟩, []),
          (⟨(some 40), .pick (.t 23) (.t 39) (.c (.bool false)), none⟩, [])])
        (.cond (.t 40)
          (.region [
            ⟨(some 41), .move (.t 11), none⟩,
            ⟨(some 42), .bin .add (.t 41) (.c (.int .i64 1)), none⟩,
            ⟨(some 11), .move (.t 42), none⟩])
          .skip))
        (.seq
        (.seq
        (.draw [
          (⟨(some 43), .move (.t 4), none⟩, []),
          (⟨(some 44), .move (.t 0), none⟩, []),
          (⟨(some 45), .move (.t 3), none⟩, []),
          (⟨(some 46), .move (.t 10), none⟩, []),
          (⟨(some 47), .bin .add (.t 45) (.t 46), none⟩, []),
          (⟨(some 48), .indexAddr 1 (.t 44) (.t 47), none⟩, []),
          (⟨(some 49), .load false 1 (.t 48), none⟩, []),
          (⟨(some 50), .move (.t 0), none⟩, []),
          (⟨(some 51), .move (.t 3), none⟩, []),
          (⟨(some 52), .move (.t 11), none⟩, []),
          (⟨(some 53), .bin .add (.t 51) (.t 52), none⟩, []),
          (⟨(some 54), .indexAddr 1 (.t 50) (.t 53), none⟩, []),
          (⟨(some 55), .load false 1 (.t 54), none⟩, []),
          (⟨(some 56), .callv (.t 43) [(.t 49), (.t 55)], none⟩, []),
          (⟨(some 57), .bin .lss (.t 56) (.c (.int .i64 0)), none⟩, []),
          (⟨(some 58), .un .not (.t 57), none⟩, [])])
        (.cond (.t 58)
          .ret
          .skip))
        (.seq
        (.draw [
          (⟨(some 59), .move (.t 0), none⟩, []),
          (⟨(some 60), .move (.t 3), none⟩, []),
          (⟨(some 61), .move (.t 10), none⟩, []),
          (⟨(some 62), .bin .add (.t 60) (.t 61), none⟩, []),
          (⟨(some 63), .move (.t 0), none⟩, []),
          (⟨(some 64), .move (.t 3), none⟩, []),
          (⟨(some 65), .move (.t 11), none⟩, []),
          (⟨(some 66), .bin .add (.t 64) (.t 65), none⟩, []),
          (⟨(some 67), .move (.t 0), none⟩, []),
          (⟨(some 68), .move (.t 3), none⟩, []),
          (⟨(some 69), .move (.t 11), none⟩, []),
          (⟨(some 70), .bin .add (.t 68) (.t 69), none⟩, []),
          (⟨(some 71), .indexAddr 1 (.t 67) (.t 70), none⟩, []),
          (⟨(some 72), .load false 1 (.t 71), none⟩, []),
          (⟨(some 73), .move (.t 0), none⟩, []),
          (⟨(some 74), .move (.t 3), none⟩, []),
          (⟨(some 75), .move (.t 10), none⟩, []),
          (⟨(some 76), .bin .add (.t 74) (.t 75), none⟩, []),
          (⟨(some 77), .indexAddr 1 (.t 73) (.t 76), none⟩, []),
          (⟨(some 78), .load false 1 (.t 77), none⟩, []),
          (⟨(some 79), .indexAddr 1 (.t 59) (.t 62), none⟩, []),
          (⟨none, .store 1 (.t 79) (.t 72), none⟩, []),
          (⟨(some 80), .indexAddr 1 (.t 63) (.t 66), none⟩, []),
          (⟨none, .store 1 (.t 80) (.t 78), none⟩, [])])
        (.region [
          ⟨(some 81), .move (.t 11), none⟩,
          ⟨(some 10), .move (.t 81), none⟩]))))))))))⟩

structure F_slices_siftDownCmpFunc_LValue (P : Program) where
  id : FuncId
  has : Has P id [] c_slices_siftDownCmpFunc_LValue

def c_slices_heapSortCmpFunc_LValue (f_slices_siftDownCmpFunc_LValue : FuncId) : AFunc := ⟨60, [],
  (.seq
  (.region [
    ⟨(some 13), .move (.t 1), none⟩,
    ⟨(some 8), .move (.t 13), none⟩])
  (.seq
  (.region [
    ⟨(some 9), .move (.c (.int .i64 0)), none⟩])
  (.seq
  (.region [
    ⟨(some 14), .move (.t 2), none⟩,
    ⟨(some 15), .move (.t 1), none⟩,
    ⟨(some 16), .bin .sub (.t 14) (.t 15), none⟩,
    ⟨(some 10), .move (.t 16), none⟩])
  (.seq
  (.seq
  (.region [
    ⟨(some 17), .move (.t 10), none⟩,
    ⟨(some 18), .bin .sub (.t 17) (.c (.int .i64 1)), none⟩,
    ⟨(some 19), .bin .quo (.t 18) (.c (.int .i64 2)), none⟩,
    ⟨(some 11), .move (.t 19), none⟩])
  (.block 0
    (.loop
      (.seq
      (.seq
      (.region [
        ⟨(some 20), .move (.t 11), none⟩,
        ⟨(some 21), .bin .geq (.t 20) (.c (.int .i64 0)), none⟩])
      (.cond (.t 21)
        .skip
        (.exit 0)))
      (.seq
      (.block 1
        (.region [
          ⟨(some 24), .move (.t 0), none⟩,
          ⟨(some 25), .move (.t 11), none⟩,
          ⟨(some 26), .move (.t 10), none⟩,
          ⟨(some 27), .move (.t 8), none⟩,
          ⟨(some 28), .move (.t 3), none⟩,
          ⟨(some 29), .call f_slices_siftDownCmpFunc_LValue [(.t 24), (.t 25), (.t 26), (.t 27), (.t 28)], none⟩]))
      (.region [
        ⟨(some 22), .move (.t 11), none⟩,
        ⟨(some 23), .bin .sub (.t 22) (.c (.int .i64 1)), none⟩,
        ⟨(some 11), .move (.t 23), none⟩]))))))
  (.seq
  (.region [
    ⟨(some 30), .move (.t 10), none⟩,
    ⟨(some 31), .bin .sub (.t 30) (.c (.int .i64 1)), none⟩,
    ⟨(some 12), .move (.t 31), none⟩])
  (.block 2
    (.loop
      (.seq
      (.seq
      (.region [
        ⟨(some 32), .move (.t 12), none⟩,
        ⟨(some 33), .bin .geq (.t 32) (.c (.int .i64 0)), none⟩])
      (.cond (.t 33)
        .skip
        (.exit 2)))
      (.seq
      (.block 3
        (.seq
        (.draw [
          (⟨(some 36), .move (.t 0), none⟩, []),
          (⟨(some 37), .move (.t 8), none⟩, []),
          (⟨(some 38), .move (.t 0), none⟩, []),
          (⟨(some 39), .move (.t 8), none⟩, []),
          (⟨(some 40), .move (.t 12), none⟩, []),
          (⟨(some 41), .bin .add (.t 39) (.t 40), none⟩, []),
          (⟨(some 42), .move (.t 0), none⟩, []),
          (⟨(some 43), .move (.t 8), none⟩, []),
          (⟨(some 44), .move (.t 12), none⟩, []),
          (⟨(some 45), .bin .add (.t 43) (.t 44), none⟩, []),
          (⟨(some 46), .indexAddr 1 (.t 42) (.t 45), none⟩, []),
          (⟨(some 47), .load false 1 (.t 46), none⟩, []),
          (⟨(some 48), .move (.t 0), none⟩, []),
          (⟨(some 49), .move (.t 8), none⟩, []),
          (⟨(some 50), .indexAddr 1 (.t 48) (.t 49), none⟩, []),
          (⟨(some 51), .load false 1 (.t 50), none⟩, []),
          (⟨(some 52), .indexAddr 1 (.t 36) (.t 37), none⟩, []),
          (⟨none, .store 1 (.t 52) (.t 47), none⟩, []),
          (⟨(some 53), .indexAddr 1 (.t 38) (.t 41), none⟩, []),
          (⟨none, .store 1 (.t 53) (.t 51), none⟩, [])])
        (.region [
          ⟨(some 54), .move (.t 0), none⟩,
          ⟨(some 55), .move (.t 9), none⟩,
          ⟨(some 56), .move (.t 12), none⟩,
          ⟨(some 57), .move (.t 8), none⟩,
          ⟨(some 58), .move (.t 3), none⟩,
          ⟨(some 59), .call f_slices_siftDownCmpFunc_LValue [(.t 54), (.t 55), (.t 56), (.t 57), (.t 58)], none⟩])))
      (.region [
        ⟨(some 34), .move (.t 12), none⟩,
        ⟨(some 35), .bin .sub (.t 34) (.c (.int .i64 1)), none⟩,
        ⟨(some 12), .move (.t 35), none⟩]))))))))))⟩

structure F_slices_heapSortCmpFunc_LValue (P : Program) where
  id : FuncId
  slices_siftDownCmpFunc_LValue : F_slices_siftDownCmpFunc_LValue P
  has : Has P id [] (c_slices_heapSortCmpFunc_LValue slices_siftDownCmpFunc_LValue.id)

def c_slices_breakPatternsCmpFunc_LValue (f_slices_nextPowerOfTwo : FuncId) (f_slices_xorshift_Next : FuncId) : AFunc := ⟨67, [],
  (.seq
  (.region [
    ⟨(some 13), .move (.t 2), none⟩,
    ⟨(some 14), .move (.t 1), none⟩,
    ⟨(some 15), .bin .sub (.t 13) (.t 14), none⟩,
    ⟨(some 8), .move (.t 15), none⟩])
  (.seq
  (.region [
    ⟨(some 16), .move (.t 8), none⟩,
    ⟨(some 17), .bin .geq (.t 16) (.c (.int .i64 8)), none⟩])
  (.cond (.t 17)
    (.seq
    (.region [
      ⟨(some 18), .move (.t 8), none⟩,
      ⟨(some 19), .conv .u64 (.t 18), none⟩,
      ⟨(some 9), .alloc [(.int .u64 0)], none⟩,
      ⟨none, .store 1 (.t 9) (.t 19), none⟩])
    (.seq
    (.region [
      ⟨(some 20), .move (.t 8), none⟩,
      ⟨(some 21), .call f_slices_nextPowerOfTwo [(.t 20)], none⟩,
      ⟨(some 10), .move (.t 21), none⟩])
    (.seq
    (.region [
      ⟨(some 22), .move (.t 1), none⟩,
      ⟨(some 23), .move (.t 8), none⟩,
      ⟨(some 24), .bin .quo (.t 23) (.c (.int .i64 4)), none⟩,
      ⟨(some 25), .bin .mul (.t 24) (.c (.int .i64 2)), none⟩,
      ⟨(some 26), .bin .add (.t 22) (.t 25), none⟩,
      ⟨(some 27), .bin .sub (.t 26) (.c (.int .i64 1)), none⟩,
      ⟨(some 11), .move (.t 27), none⟩])
    (.block 0
      (.loop
        (.seq
        (.seq
        (.region [
          ⟨(some 28), .move (.t 11), none⟩,
          ⟨(some 29), .move (.t 1), none⟩,
          ⟨(some 30), .move (.t 8), none⟩,
          ⟨(some 31), .bin .quo (.t 30) (.c (.int .i64 4)), none⟩,
          ⟨(some 32), .bin .mul (.t 31) (.c (.int .i64 2)), none⟩,
          ⟨(some 33), .bin .add (.t 29) (.t 32), none⟩,
          ⟨(some 34), .bin .add (.t 33) (.c (.int .i64 1)), none⟩,
          ⟨(some 35), .bin .leq (.t 28) (.t 34), none⟩])
        (.cond (.t 35)
          .skip
          (.exit 0)))
        (.seq
        (.block 1
          (.seq
          (.region [
            ⟨(some 38), .call f_slices_xorshift_Next [(.t 9)], none⟩,
            ⟨(some 39), .move (.t 10), none⟩,
            ⟨(some 40), .bin .sub (.t 39) (.c (.int .u64 1)), none⟩,
            ⟨(some 41), .bin .and (.t 38) (.t 40), none⟩,
            ⟨(some 42), .conv .i64 (.t 41), none⟩,
            ⟨(some 12), .move (.t 42), none⟩])
          (.seq
          (.seq
          (.region [
            ⟨(some 43), .move (.t 12), none⟩,
            ⟨(some 44), .move (.t 8), none⟩,
            ⟨(some 45), .bin .geq (.t 43) (.t 44), none⟩])
          (.cond (.t 45)
            (.region [
              ⟨(some 46), .move (.t 12), none⟩,
              ⟨(some 47), .move (.t 8), none⟩,
              ⟨(some 48), .bin .sub (.t 46) (.t 47), none⟩,
              ⟨(some 12), .move (.t 48), none⟩])
            .skip))
          (.draw [
            (⟨(some 49), .move (.t 0), none⟩, []),
            (⟨(some 50), .move (.t 11), none⟩, []),
            (⟨(some 51), .move (.t 0), none⟩, []),
            (⟨(some 52), .move (.t 1), none⟩, []),
            (⟨(some 53), .move (.t 12), none⟩, []),
            (⟨(some 54), .bin .add (.t 52) (.t 53), none⟩, []),
            (⟨(some 55), .move (.t 0), none⟩, []),
            (⟨(some 56), .move (.t 1), none⟩, []),
            (⟨(some 57), .move (.t 12), none⟩, []),
            (⟨(some 58), .bin .add (.t 56) (.t 57), none⟩, []),
            (⟨(some 59), .indexAddr 1 (.t 55) (.t 58), none⟩, []),
            (⟨(some 60), .load false 1 (.t 59), none⟩, []),
            (⟨(some 61), .move (.t 0), none⟩, []),
            (⟨(some 62), .move (.t 11), none⟩, []),
            (⟨(some 63), .indexAddr 1 (.t 61) (.t 62), none⟩, []),
            (⟨(some 64), .load false 1 (.t 63), none⟩, []),
            (⟨(some 65), .indexAddr 1 (.t 49) (.t 50), none⟩, []),
            (⟨none, .store 1 (.t 65) (.t 60), none⟩, []),
            (⟨(some 66), .indexAddr 1 (.t 51) (.t 54), none⟩, []),
            (⟨none, .store 1 (.t 66) (.t 64), none⟩, [])]))))
        (.region [
          ⟨(some 36), .move (.t 11), none⟩,
          ⟨(some 37), .bin .add (.t 36) (.c (.int .i64 1)), none⟩,
          ⟨(some 11), .move (.t 37), none⟩]))))))))
    .skip)))⟩

structure F_slices_breakPatternsCmpFunc_LValue (P : Program) where
  id : FuncId
  slices_nextPowerOfTwo : F_slices_nextPowerOfTwo P
  slices_xorshift_Next : F_slices_xorshift_Next P
  has : Has P id [] (c_slices_breakPatternsCmpFunc_LValue slices_nextPowerOfTwo.id slices_xorshift_Next.id)

def c_slices_order2CmpFunc_LValue : AFunc := ⟨32, [.tmp 10, .tmp 11],
  (.seq
  (.region [
    ⟨(some 10), .move (.c (.int .i64 0)), none⟩,
    ⟨(some 11), .move (.c (.int .i64 0)), none⟩])
  (.seq
  (.seq
  (.draw [
    (⟨(some 12), .move (.t 4), none⟩, []),
    (⟨(some 13), .move (.t 0), none⟩, []),
    (⟨(some 14), .move (.t 2), none⟩, []),
    (⟨(some 15), .indexAddr 1 (.t 13) (.t 14), none⟩, []),
    (⟨(some 16), .load false 1 (.t 15), none⟩, []),
    (⟨(some 17), .move (.t 0), none⟩, []),
    (⟨(some 18), .move (.t 1), none⟩, []),
    (⟨(some 19), .indexAddr 1 (.t 17) (.t 18), none⟩, []),
    (⟨(some 20), .load false 1 (.t 19), none⟩, []),
    (⟨(some 21), .callv (.t 12) [(.t 16), (.t 20)], none⟩, []),
    (⟨(some 22), .bin .lss (.t 21) (.c (.int .i64 0)), none⟩, [])])
  (.cond (.t 22)
    (.seq
    (.region [
      ⟨(some 23), .move (.t 3), none⟩,
      ⟨(some 24), .nop (.t 23), none⟩,
      ⟨(some 25), .load false 1 (.t 24), none⟩,
      ⟨(some 26), .bin .add (.t 25) (.c (.int .i64 1)), none⟩,
      ⟨(some 27), .nop (.t 23), none⟩,
      ⟨none, .store 1 (.t 27) (.t 26), none⟩])
    (.seq
    (.region [
      ⟨(some 28), .move (.t 2), none⟩,
      ⟨(some 29), .move (.t 1), none⟩,
      ⟨(some 10), .move (.t 28), none⟩,
      ⟨(some 11), .move (.t 29), none⟩])
    .ret))
    .skip))
  (.seq
  (.region [
    ⟨(some 30), .move (.t 1), none⟩,
    ⟨(some 31), .move (.t 2), none⟩,
    ⟨(some 10), .move (.t 30), none⟩,
    ⟨(some 11), .move (.t 31), none⟩])
  .ret)))⟩

structure F_slices_order2CmpFunc_LValue (P : Program) where
  id : FuncId
  has : Has P id [] c_slices_order2CmpFunc_LValue

def c_slices_medianCmpFunc_LValue (f_slices_order2CmpFunc_LValue : FuncId) : AFunc := ⟨41, [.tmp 12],
  (.seq
  (.region [
    ⟨(some 12), .move (.c (.int .i64 0)), none⟩])
  (.seq
  (.region [
    ⟨(some 14), .move (.t 0), none⟩,
    ⟨(some 15), .move (.t 1), none⟩,
    ⟨(some 16), .move (.t 2), none⟩,
    ⟨(some 17), .move (.t 4), none⟩,
    ⟨(some 18), .move (.t 5), none⟩,
    ⟨(some 19), .call f_slices_order2CmpFunc_LValue [(.t 14), (.t 15), (.t 16), (.t 17), (.t 18)], none⟩,
    ⟨(some 13), .move (.t 19), none⟩,
    ⟨(some 20), .extract (.t 13) 0, none⟩,
    ⟨(some 21), .extract (.t 13) 1, none⟩,
    ⟨(some 1), .move (.t 20), none⟩,
    ⟨(some 2), .move (.t 21), none⟩])
  (.seq
  (.region [
    ⟨(some 23), .move (.t 0), none⟩,
    ⟨(some 24), .move (.t 2), none⟩,
    ⟨(some 25), .move (.t 3), none⟩,
    ⟨(some 26), .move (.t 4), none⟩,
    ⟨(some 27), .move (.t 5), none⟩,
    ⟨(some 28), .call f_slices_order2CmpFunc_LValue [(.t 23), (.t 24), (.t 25), (.t 26), (.t 27)], none⟩,
    ⟨(some 22), .move (.t 28), none⟩,
    ⟨(some 29), .extract (.t 22) 0, none⟩,
    ⟨(some 30), .extract (.t 22) 1, none⟩,
    ⟨(some 2), .move (.t 29), none⟩,
    ⟨(some 3), .move (.t 30), none⟩])
  (.seq
  (.region [
    ⟨(some 32), .move (.t 0), none⟩,
    ⟨(some 33), .move (.t 1), none⟩,
    ⟨(some 34), .move (.t 2), none⟩,
    ⟨(some 35), .move (.t 4), none⟩,
    ⟨(some 36), .move (.t 5), none⟩,
    ⟨(some 37), .call f_slices_order2CmpFunc_LValue [(.t 32), (.t 33), (.t 34), (.t 35), (.t 36)], none⟩,
    ⟨(some 31), .move (.t 37), none⟩,
    ⟨(some 38), .extract (.t 31) 0, none⟩,
    ⟨(some 39), .extract (.t 31) 1, none⟩,
    ⟨(some 1), .move (.t 38), none⟩,
    ⟨(some 2), .move (.t 39), none⟩])
  (.seq
  (.region [
    ⟨(some 40), .move (.t 2), none⟩,
    ⟨(some 12), .move (.t 40), none⟩])
  .ret)))))⟩

structure F_slices_medianCmpFunc_LValue (P : Program) where
  id : FuncId
  slices_order2CmpFunc_LValue : F_slices_order2CmpFunc_LValue P
  has : Has P id [] (c_slices_medianCmpFunc_LValue slices_order2CmpFunc_LValue.id)

def c_slices_medianAdjacentCmpFunc_LValue (f_slices_medianCmpFunc_LValue : FuncId) : AFunc := ⟨18, [.tmp 8],
  (.seq
  (.region [
    ⟨(some 8), .move (.c (.int .i64 0)), none⟩])
  (.seq
  (.region [
    ⟨(some 9), .move (.t 0), none⟩,
    ⟨(some 10), .move (.t 1), none⟩,
    ⟨(some 11), .bin .sub (.t 10) (.c (.int .i64 1)), none⟩,
    ⟨(some 12), .move (.t 1), none⟩,
    ⟨(some 13), .move (.t 1), none⟩,
    ⟨(some 14), .bin .add (.t 13) (.c (.int .i64 1)), none⟩,
    ⟨(some 15), .move (.t 2), none⟩,
    ⟨(some 16), .move (.t 3), none⟩,
    ⟨(some 17), .call f_slices_medianCmpFunc_LValue [(.t 9), (.t 11), (.t 12), (.t 14), (.t 15), (.t 16)], none⟩,
    ⟨(some 8), .move (.t 17), none⟩])
  .ret))⟩

structure F_slices_medianAdjacentCmpFunc_LValue (P : Program) where
  id : FuncId
  slices_medianCmpFunc_LValue : F_slices_medianCmpFunc_LValue P
  has : Has P id [] (c_slices_medianAdjacentCmpFunc_LValue slices_medianCmpFunc_LValue.id)

def c_slices_choosePivotCmpFunc_LValue (f_slices_medianAdjacentCmpFunc_LValue : FuncId) (f_slices_medianCmpFunc_LValue : FuncId) : AFunc := ⟨63, [.tmp 8, .tmp 9],
  (.seq
  (.region [
    ⟨(some 8), .move (.c (.int .i64 0)), none⟩,
    ⟨(some 9), .move (.c (.int .i64 0)), none⟩])
  (.seq
  (.region [
    ⟨(some 15), .move (.t 2), none⟩,
    ⟨(some 16), .move (.t 1), none⟩,
    ⟨(some 17), .bin .sub (.t 15) (.t 16), none⟩,
    ⟨(some 10), .move (.t 17), none⟩])
  (.seq
  (.region [
    ⟨(some 11), .alloc [(.int .i64 0)], none⟩])
  (.seq
  (.region [
    ⟨(some 18), .move (.t 1), none⟩,
    ⟨(some 19), .move (.t 10), none⟩,
    ⟨(some 20), .bin .quo (.t 19) (.c (.int .i64 4)), none⟩,
    ⟨(some 21), .bin .mul (.t 20) (.c (.int .i64 1)), none⟩,
    ⟨(some 22), .bin .add (.t 18) (.t 21), none⟩,
    ⟨(some 12), .move (.t 22), none⟩])
  (.seq
  (.region [
    ⟨(some 23), .move (.t 1), none⟩,
    ⟨(some 24), .move (.t 10), none⟩,
    ⟨(some 25), .bin .quo (.t 24) (.c (.int .i64 4)), none⟩,
    ⟨(some 26), .bin .mul (.t 25) (.c (.int .i64 2)), none⟩,
    ⟨(some 27), .bin .add (.t 23) (.t 26), none⟩,
    ⟨(some 13), .move (.t 27), none⟩])
  (.seq
  (.region [
    ⟨(some 28), .move (.t 1), none⟩,
    ⟨(some 29), .move (.t 10), none⟩,
    ⟨(some 30), .bin .quo (.t 29) (.c (.int .i64 4)), none⟩,
    ⟨(some 31), .bin .mul (.t 30) (.c (.int .i64 3)), none⟩,
    ⟨(some 32), .bin .add (.t 28) (.t 31), none⟩,
    ⟨(some 14), .move (.t 32), none⟩])
  (.seq
  (.seq
  (.region [
    ⟨(some 33), .move (.t 10), none⟩,
    ⟨(some 34), .bin .geq (.t 33) (.c (.int .i64 8)), none⟩])
  (.cond (.t 34)
    (.seq
    (.seq
    (.region [
      ⟨(some 35), .move (.t 10), none⟩,
      ⟨(some 36), .bin .geq (.t 35) (.c (.int .i64 50)), none⟩])
    (.cond (.t 36)
      (.seq
      (.region [
        ⟨(some 37), .move (.t 0), none⟩,
        ⟨(some 38), .move (.t 12), none⟩,
        ⟨(some 39), .move (.t 3), none⟩,
        ⟨(some 40), .call f_slices_medianAdjacentCmpFunc_LValue [(.t 37), (.t 38), (.t 11), (.t 39)], none⟩,
        ⟨(some 12), .move (.t 40), none⟩])
      (.seq
      (.region [
        ⟨(some 41), .move (.t 0), none⟩,
        ⟨(some 42), .move (.t 13), none⟩,
        ⟨(some 43), .move (.t 3), none⟩,
        ⟨(some 44), .call f_slices_medianAdjacentCmpFunc_LValue [(.t 41), (.t 42), (.t 11), (.t 43)], none⟩,
        ⟨(some 13), .move (.t 44), none⟩])
      (.region [
        ⟨(some 45), .move (.t 0), none⟩,
        ⟨(some 46), .move (.t 14), none⟩,
        ⟨(some 47), .move (.t 3), none⟩,
        ⟨(some 48), .call f_slices_medianAdjacentCmpFunc_LValue [(.t 45), (.t 46), (.t 11), (.t 47)], none⟩,
        ⟨(some 14), .move (.t 48), none⟩])))
      .skip))
    (.region [
      ⟨(some 49), .move (.t 0), none⟩,
      ⟨(some 50), .move (.t 12), none⟩,
      ⟨(some 51), .move (.t 13), none⟩,
      ⟨(some 52), .move (.t 14), none⟩,
      ⟨(some 53), .move (.t 3), none⟩,
      ⟨(some 54), .call f_slices_medianCmpFunc_LValue [(.t 49), (.t 50), (.t 51), (.t 52), (.t 11), (.t 53)], none⟩,
      ⟨(some 13), .move (.t 54), none⟩]))
    .skip))
  (.seq
  (.region [
    ⟨(some 55), .load false 1 (.t 11), none⟩])
  (.block 0
    (.seq
    (.region [
      ⟨(some 58), .bin .eql (.t 55) (.c (.int .i64 0)), none⟩,
      ⟨(some 57), .move (.t 58), none⟩])
    (.cond (.t 57)
      (.seq
      (.region [
        ⟨(some 59), .move (.t 13), none⟩,
        ⟨(some 8), .move (.t 59), none⟩,
        ⟨(some 9), .move (.c (.int .i64 1)), none⟩])
      .ret)
      (.seq
      (.region [
        ⟨(some 61), .bin .eql (.t 55) (.c (.int .i64 12)), none⟩,
        ⟨(some 60), .move (.t 61), none⟩])
      (.cond (.t 60)
        (.seq
        (.region [
          ⟨(some 62), .move (.t 13), none⟩,
          ⟨(some 8), .move (.t 62), none⟩,
          ⟨(some 9), .move (.c (.int .i64 2)), none⟩])
        .ret)
        (.seq
        (.region [
          ⟨(some 56), .move (.t 13), none⟩,
          ⟨(some 8), .move (.t 56), none⟩,
          ⟨(some 9), .move (.c (.int .i64 0)), none⟩])
        .ret))))))))))))))⟩

structure F_slices_choosePivotCmpFunc_LValue (P : Program) where
  id : FuncId
  slices_medianAdjacentCmpFunc_LValue : F_slices_medianAdjacentCmpFunc_LValue P
  slices_medianCmpFunc_LValue : F_slices_medianCmpFunc_LValue P
  has : Has P id [] (c_slices_choosePivotCmpFunc_LValue slices_medianAdjacentCmpFunc_LValue.id slices_medianCmpFunc_LValue.id)

def c_slices_reverseRangeCmpFunc_LValue : AFunc := ⟨34, [],
  (.seq
  (.region [
    ⟨(some 10), .move (.t 1), none⟩,
    ⟨(some 8), .move (.t 10), none⟩])
  (.seq
  (.region [
    ⟨(some 11), .move (.t 2), none⟩,
    ⟨(some 12), .bin .sub (.t 11) (.c (.int .i64 1)), none⟩,
    ⟨(some 9), .move (.t 12), none⟩])
  (.block 0
    (.loop
      (.seq
      (.seq
      (.region [
        ⟨(some 13), .move (.t 8), none⟩,
        ⟨(some 14), .move (.t 9), none⟩,
        ⟨(some 15), .bin .lss (.t 13) (.t 14), none⟩])
      (.cond (.t 15)
        .skip
        (.exit 0)))
      (.block 1
        (.seq
        (.draw [
          (⟨(some 16), .move (.t 0), none⟩, []),
          (⟨(some 17), .move (.t 8), none⟩, []),
          (⟨(some 18), .move (.t 0), none⟩, []),
          (⟨(some 19), .move (.t 9), none⟩, []),
          (⟨(some 20), .move (.t 0), none⟩, []),
          (⟨(some 21), .move (.t 9), none⟩, []),
          (⟨(some 22), .indexAddr 1 (.t 20) (.t 21), none⟩, []),
          (⟨(some 23), .load false 1 (.t 22), none⟩, []),
          (⟨(some 24), .move (.t 0), none⟩, []),
          (⟨(some 25), .move (.t 8), none⟩, []),
          (⟨(some 26), .indexAddr 1 (.t 24) (.t 25), none⟩, []),
          (⟨(some 27), .load false 1 (.t 26), none⟩, []),
          (⟨(some 28), .indexAddr 1 (.t 16) (.t 17), none⟩, []),
          (⟨none, .store 1 (.t 28) (.t 23), none⟩, []),
          (⟨(some 29), .indexAddr 1 (.t 18) (.t 19), none⟩, []),
          (⟨none, .store 1 (.t 29) (.t 27), none⟩, [])])
        (.seq
        (.region [
          ⟨(some 30), .move (.t 8), none⟩,
          ⟨(some 31), .bin .add (.t 30) (.c (.int .i64 1)), none⟩,
          ⟨(some 8), .move (.t 31), none⟩])
        (.region [
          ⟨(some 32), .move (.t 9), none⟩,
          ⟨(some 33), .bin .sub (.t 32) (.c (.int .i64 1)), none⟩,
          ⟨(some 9), .move (.t 33), none⟩])))))))))⟩

structure F_slices_reverseRangeCmpFunc_LValue (P : Program) where
  id : FuncId
  has : Has P id [] c_slices_reverseRangeCmpFunc_LValue

def c_slices_partialInsertionSortCmpFunc_LValue : AFunc := ⟨141, [.tmp 8],
  (.seq
  (.region [
    ⟨(some 8), .move (.c (.bool false)), none⟩])
  (.seq
  (.region [
    ⟨(some 13), .move (.t 1), none⟩,
    ⟨(some 14), .bin .add (.t 13) (.c (.int .i64 1)), none⟩,
    ⟨(some 9), .move (.t 14), none⟩])
  (.seq
  (.seq
  (.region [
    ⟨(some 10), .move (.c (.int .i64 0)), none⟩])
  (.block 0
    (.loop
      (.seq
      (.seq
      (.region [
        ⟨(some 15), .move (.t 10), none⟩,
        ⟨(some 16), .bin .lss (.t 15) (.c (.int .i64 5)), none⟩])
      (.cond (.t 16)
        .skip
        (.exit 0)))
      (.seq
      (.block 1
        (.seq
        (.block 2
          (.loop
            (.seq
            (.seq
            (.draw [
              (⟨(some 19), .move (.t 9), none⟩, []),
              (⟨(some 20), .move (.t 2), none⟩, []),
              (⟨(some 21), .bin .lss (.t 19) (.t 20), none⟩, []),
              (⟨(some 22), .move (.t 21), none⟩, []),
              (⟨(some 23), .move (.t 3), some (some 22, true)⟩, []),
              (⟨(some 24), .move (.t 0), some (some 22, true)⟩, []),
              (⟨(some 25), .move (.t 9), some (some 22, true)⟩, []),
              (⟨(some 26), .indexAddr 1 (.t 24) (.t 25), some (some 22, true)⟩, []),
              (⟨(some 27), .load false 1 (.t 26), some (some 22, true)⟩, []),
              (⟨(some 28), .move (.t 0), some (some 22, true)⟩, []),
              (⟨(some 29), .move (.t 9), some (some 22, true)⟩, []),
              (⟨(some 30), .bin .sub (.t 29) (.c (.int .i64 1)), some (some 22, true)⟩, []),
              (⟨(some 31), .indexAddr 1 (.t 28) (.t 30), some (some 22, true)⟩, []),
              (⟨(some 32), .load false 1 (.t 31), some (some 22, true)⟩, []),
              (⟨(some 33), .callv (.t 23) [(.t 27), (.t 32)], some (some 22, true)⟩, []),
              (⟨(some 34), .bin .lss (.t 33) (.c (.int .i64 0)), some (some 22, true)⟩, []),
              (⟨(some 35), .un .not (.t 34), some (some 22, true)⟩, []),
              (⟨(some 36), .pick (.t 22) (.t 35) (.c (.bool false)), none⟩, [])])
            (.cond (.t 36)
              .skip
              (.exit 2)))
            (.block 3
              (.region [
                ⟨(some 37), .move (.t 9), none⟩,
                ⟨(some 38), .bin .add (.t 37) (.c (.int .i64 1)), none⟩,
                ⟨(some 9), .move (.t 38), none⟩])))))
        (.seq
        (.seq
        (.region [
          ⟨(some 39), .move (.t 9), none⟩,
          ⟨(some 40), .move (.t 2), none⟩,
          ⟨(some 41), .bin .eql (.t 39) (.t 40), none⟩])
        (.cond (.t 41)
          (.seq
          (.region [
            ⟨(some 8), .move (.c (.bool true)), none⟩])
          .ret)
          .skip))
        (.seq
        (.seq
        (.region [
          ⟨(some 42), .move (.t 2), none⟩,
          ⟨(some 43), .move (.t 1), none⟩,
          ⟨(some 44), .bin .sub (.t 42) (.t 43), none⟩,
          ⟨(some 45), .bin .lss (.t 44) (.c (.int .i64 50)), none⟩])
        (.cond (.t 45)
          (.seq
          (.region [
            ⟨(some 8), .move (.c (.bool false)), none⟩])
          .ret)
          .skip))
        (.seq
        (.draw [
          (⟨(some 46), .move (.t 0), none⟩, []),
          (⟨(some 47), .move (.t 9), none⟩, []),
          (⟨(some 48), .move (.t 0), none⟩, []),
          (⟨(some 49), .move (.t 9), none⟩, []),
          (⟨(some 50), .bin .sub (.t 49) (.c (.int .i64 1)), none⟩, []),
          (⟨(some 51), .move (.t 0), none⟩, []),
          (⟨(some 52), .move (.t 9), none⟩, []),
          (⟨(some 53), .bin .sub (.t 52) (.c (.int .i64 1)), none⟩, []),
          (⟨(some 54), .indexAddr 1 (.t 51) (.t 53), none⟩, []),
          (⟨(some 55), .load false 1 (.t 54), none⟩, []),
          (⟨(some 56), .move (.t 0), none⟩, []),
          (⟨(some 57), .move (.t 9), none⟩, []),
          (⟨(some 58), .indexAddr 1 (.t 56) (.t 57), none⟩, []),
          (⟨(some 59), .load false 1 (.t 58), none⟩, []),
          (⟨(some 60), .indexAddr 1 (.t 46) (.t 47), none⟩, []),
          (⟨none, .store 1 (.t 60) (.t 55), none⟩, []),
          (⟨(some 61), .indexAddr 1 (.t 48) (.t 50), none⟩, []),
          (⟨none, .store 1 (.t 61) (.t 59), none⟩, [])])
        (.seq
        (.seq
        (.region [
          ⟨(some 62), .move (.t 9), none⟩,
          ⟨(some 63), .move (.t 1), none⟩,
          ⟨(some 64), .bin .sub (.t 62) (.t 63), none⟩,
          ⟨(some 65), .bin .geq (.t 64) (.c (.int .i64 2)), none⟩])
        (.cond (.t 65)
          (.seq
          (.region [
            ⟨(some 66), .move (.t 9), none⟩,
            ⟨(some 67), .bin .sub (.t 66) (.c (.int .i64 1)), none⟩,
            ⟨(some 11), .move (.t 67), none⟩])
          (.block 4
            (.loop
              (.seq
              (.seq
              (.region [
                ⟨(some 68), .move (.t 11), none⟩,
                ⟨(some 69), .bin .geq (.t 68) (.c (.int .i64 1)), none⟩])
              (.cond (.t 69)
                .skip
                (.exit 4)))
              (.seq
              (.block 5
                (.seq
                (.seq
                (.draw [
                  (⟨(some 72), .move (.t 3), none⟩, []),
                  (⟨(some 73), .move (.t 0), none⟩, []),
                  (⟨(some 74), .move (.t 11), none⟩, []),
                  (⟨(some 75), .indexAddr 1 (.t 73) (.t 74), none⟩, []),
                  (⟨(some 76), .load false 1 (.t 75), none⟩, []),
                  (⟨(some 77), .move (.t 0), none⟩, []),
                  (⟨(some 78), .move (.t 11), none⟩, []),
                  (⟨(some 79), .bin .sub (.t 78) (.c (.int .i64 1)), none⟩, []),
                  (⟨(some 80), .indexAddr 1 (.t 77) (.t 79), none⟩, []),
                  (⟨(some 81), .load false 1 (.t 80), none⟩, []),
                  (⟨(some 82), .callv (.t 72) [(.t 76), (.t 81)], none⟩, []),
                  (⟨(some 83), .bin .lss (.t 82) (.c (.int .i64 0)), none⟩, []),
                  (⟨(some 84), .un .not (.t 83), none⟩, [])])
                (.cond (.t 84)
                  (.exit 4)
                  .skip))
                (.draw [
                  (⟨(some 85), .move (.t 0), none⟩, []),
                  (⟨(some 86), .move (.t 11), none⟩, []),
                  (⟨(some 87), .move (.t 0), none⟩, []),
                  (⟨(some 88), .move (.t 11), none⟩, []),
                  (⟨(some 89), .bin .sub (.t 88) (.c (.int .i64 1)), none⟩, []),
                  (⟨(some 90), .move (.t 0), none⟩, []),
                  (⟨(some 91), .move (.t 11), none⟩, []),
                  (⟨(some 92), .bin .sub (.t 91) (.c (.int .i64 1)), none⟩, []),
                  (⟨(some 93), .indexAddr 1 (.t 90) (.t 92), none⟩, []),
                  (⟨(some 94), .load false 1 (.t 93), none⟩, []),
                  (⟨(some 95), .move (.t 0), none⟩, []),
                  (⟨(some 96), .move (.t 11), none⟩, []),
                  (⟨(some 97), .indexAddr 1 (.t 95) (.t 96), none⟩, []),
                  (⟨(some 98), .load false 1 (.t 97), none⟩, []),
                  (⟨(some 99), .indexAddr 1 (.t 85) (.t 86), none⟩, []),
                  (⟨none, .store 1 (.t 99) (.t 94), none⟩, []),
                  (⟨(some 100), .indexAddr 1 (.t 87) (.t 89), none⟩, []),
                  (⟨none, .store 1 (.t 100) (.t 98), none⟩, [])])))
              (.region [
                ⟨(some 70), .move (.t 11), none⟩,
                ⟨(some 71), .bin .sub (.t 70) (.c (.int .i64 1)), none⟩,
                ⟨(some 11), .move (.t 71), none⟩]))))))
          .skip))
        (.seq
        (.region [
          ⟨(some 101), .move (.t 2), none⟩,
          ⟨(some 102), .move (.t 9), none⟩,
          ⟨(some 103), .bin .sub (.t 101) (.t 102), none⟩,
          ⟨(some 104), .bin .geq (.t 103) (.c (.int .i64 2)), none⟩])
        (.cond (.t 104)
          (.seq
          (.region [
            ⟨(some 105), .move (.t 9), none⟩,
            ⟨(some 106), .bin .add (.t 105) (.c (.int .i64 1)), none⟩,
            ⟨(some 12), .move (.t 106), none⟩])
          (.block 6
            (.loop
              (.seq
              (.seq
              (.region [
                ⟨(some 107), .move (.t 12), none⟩,
                ⟨(some 108), .move (.t 2), none⟩,
                ⟨(some 109), .bin .lss (.t 107) (.t 108), none⟩])
              (.cond (.t 109)
                .skip
                (.exit 6)))
              (.seq
              (.block 7
                (.seq
                (.seq
                (.draw [
                  (⟨(some 112), .move (.t 3), none⟩, []),
                  (⟨(some 113), .move (.t 0), none⟩, []),
                  (⟨(some 114), .move (.t 12), none⟩, []),
                  (⟨(some 115), .indexAddr 1 (.t 113) (.t 114), none⟩, []),
                  (⟨(some 116), .load false 1 (.t 115), none⟩, []),
                  (⟨(some 117), .move (.t 0), none⟩, []),
                  (⟨(some 118), .move (.t 12), none⟩, []),
                  (⟨(some 119), .bin .sub (.t 118) (.c (.int .i64 1)), none⟩, []),
                  (⟨(some 120), .indexAddr 1 (.t 117) (.t 119), none⟩, []),
                  (⟨(some 121), .load false 1 (.t 120), none⟩, []),
                  (⟨(some 122), .callv (.t 112) [(.t 116), (.t 121)], none⟩, []),
                  (⟨(some 123), .bin .lss (.t 122) (.c (.int .i64 0)), none⟩, []),
                  (⟨(some 124), .un .not (.t 123), none⟩, [])])
                (.cond (.t 124)
                  (.exit 6)
                  .skip))
                (.draw [
                  (⟨(some 125), .move (.t 0), none⟩, []),
                  (⟨(some 126), .move (.t 12), none⟩, []),
                  (⟨(some 127), .move (.t 0), none⟩, []),
                  (⟨(some 128), .move (.t 12), none⟩, []),
                  (⟨(some 129), .bin .sub (.t 128) (.c (.int .i64 1)), none⟩, []),
                  (⟨(some 130), .move (.t 0), none⟩, []),
                  (⟨(some 131), .move (.t 12), none⟩, []),
                  (⟨(some 132), .bin .sub (.t 131) (.c (.int .i64 1)), none⟩, []),
                  (⟨(some 133), .indexAddr 1 (.t 130) (.t 132), none⟩, []),
                  (⟨(some 134), .load false 1 (.t 133), none⟩, []),
                  (⟨(some 135), .move (.t 0), none⟩, []),
                  (⟨(some 136), .move (.t 12), none⟩, []),
                  (⟨(some 137), .indexAddr 1 (.t 135) (.t 136), none⟩, []),
                  (⟨(some 138), .load false 1 (.t 137), none⟩, []),
                  (⟨(some 139), .indexAddr 1 (.t 125) (.t 126), none⟩, []),
                  (⟨none, .store 1 (.t 139) (.t 134), none⟩, []),
                  (⟨(some 140), .indexAddr 1 (.t 127) (.t 129), none⟩, []),
                  (⟨none, .store 1 (.t 140) (.t 138), none⟩, [])])))
              (.region [
                ⟨(some 110), .move (.t 12), none⟩,
                ⟨(some 111), .bin .add (.t 110) (.c (.int .i64 1)), none⟩,
                ⟨(some 12), .move (.t 111), none⟩]))))))
          .skip))))))))
      (.region [
        ⟨(some 17), .move (.t 10), none⟩,
        ⟨(some 18), .bin .add (.t 17) (.c (.int .i64 1)), none⟩,
        ⟨(some 10), .move (.t 18), none⟩]))))))
  (.seq
  (.region [
    ⟨(some 8), .move (.c (.bool false)), none⟩])
  .ret))))⟩

structure F_slices_partialInsertionSortCmpFunc_LValue (P : Program) where
  id : FuncId
  has : Has P id [] c_slices_partialInsertionSortCmpFunc_LValue

def c_slices_partitionEqualCmpFunc_LValue : AFunc := ⟨90, [.tmp 10],
  (.seq
  (.region [
    ⟨(some 10), .move (.c (.int .i64 0)), none⟩])
  (.seq
  (.draw [
    (⟨(some 13), .move (.t 0), none⟩, []),
    (⟨(some 14), .move (.t 1), none⟩, []),
    (⟨(some 15), .move (.t 0), none⟩, []),
    (⟨(some 16), .move (.t 3), none⟩, []),
    (⟨(some 17), .move (.t 0), none⟩, []),
    (⟨(some 18), .move (.t 3), none⟩, []),
    (⟨(some 19), .indexAddr 1 (.t 17) (.t 18), none⟩, []),
    (⟨(some 20), .load false 1 (.t 19), none⟩, []),
    (⟨(some 21), .move (.t 0), none⟩, []),
    (⟨(some 22), .move (.t 1), none⟩, []),
    (⟨(some 23), .indexAddr 1 (.t 21) (.t 22), none⟩, []),
    (⟨(some 24), .load false 1 (.t 23), none⟩, []),
    (⟨(some 25), .indexAddr 1 (.t 13) (.t 14), none⟩, []),
    (⟨none, .store 1 (.t 25) (.t 20), none⟩, []),
    (⟨(some 26), .indexAddr 1 (.t 15) (.t 16), none⟩, []),
    (⟨none, .store 1 (.t 26) (.t 24), none⟩, [])])
  (.seq
  (.region [
    ⟨(some 27), .move (.t 1), none⟩,
    ⟨(some 28), .bin .add (.t 27) (.c (.int .i64 1)), none⟩,
    ⟨(some 29), .move (.t 2), none⟩,
    ⟨(some 30), .bin .sub (.t 29) (.c (.int .i64 1)), none⟩,
    ⟨(some 11), .move (.t 28), none⟩,
    ⟨(some 12), .move (.t 30), none⟩])
  (.seq
  (.block 0
    (.loop
      (.block 1
        (.seq
        (.block 2
          (.loop
            (.seq
            (.seq
            (.draw [
              (⟨(some 31), .move (.t 11), none⟩, []),
              (⟨(some 32), .move (.t 12), none⟩, []),
              (⟨(some 33), .bin .leq (.t 31) (.t 32), none⟩, []),
              (⟨(some 34), .move (.t 33), none⟩, []),
              (⟨(some 35), .move (.t 4), some (some 34, true)⟩, []),
              (⟨(some 36), .move (.t 0), some (some 34, true)⟩, []),
              (⟨(some 37), .move (.t 1), some (some 34, true)⟩, []),
              (⟨(some 38), .indexAddr 1 (.t 36) (.t 37), some (some 34, true)⟩, []),
              (⟨(some 39), .load false 1 (.t 38), some (some 34, true)⟩, []),
              (⟨(some 40), .move (.t 0), some (some 34, true)⟩, []),
              (⟨(some 41), .move (.t 11), some (some 34, true)⟩, []),
              (⟨(some 42), .indexAddr 1 (.t 40) (.t 41), some (some 34, true)⟩, []),
              (⟨(some 43), .load false 1 (.t 42), some (some 34, true)⟩, []),
              (⟨(some 44), .callv (.t 35) [(.t 39), (.t 43)], some (some 34, true)⟩, []),
              (⟨(some 45), .bin .lss (.t 44) (.c (.int .i64 0)), some (some 34, true)⟩, []),
              (⟨(some 46), .un .not (.t 45), some (some 34, true)⟩, []),
              (⟨(some 47), .pick (.t 34) (.t 46) (.c (.bool false)), none⟩, [])])
            (.cond (.t 47)
              .skip
              (.exit 2)))
            (.block 3
              (.region [
                ⟨(some 48), .move (.t 11), none⟩,
                ⟨(some 49), .bin .add (.t 48) (.c (.int .i64 1)), none⟩,
                ⟨(some 11), .move (.t 49), none⟩])))))
        (.seq
        (.block 4
          (.loop
            (.seq
            (.seq
            (.draw [
              (⟨(some 50), .move (.t 11), none⟩, []),
              (⟨(some 51), .move (.t 12), none⟩, []),
              (⟨(some 52), .bin .leq (.t 50) (.t 51), none⟩, []),
              (⟨(some 53), .move (.t 52), none⟩, []),
              (⟨(some 54), .move (.t 4), some (some 53, true)⟩, []),
              (⟨(some 55), .move (.t 0), some (some 53, true)⟩, []),
              (⟨(some 56), .move (.t 1), some (some 53, true)⟩, []),
              (⟨(some 57), .indexAddr 1 (.t 55) (.t 56), some (some 53, true)⟩, []),
              (⟨(some 58), .load false 1 (.t 57), some (some 53, true)⟩, []),
              (⟨(some 59), .move (.t 0), some (some 53, true)⟩, []),
              (⟨(some 60), .move (.t 12), some (some 53, true)⟩, []),
              (⟨(some 61), .indexAddr 1 (.t 59) (.t 60), some (some 53, true)⟩, []),
              (⟨(some 62), .load false 1 (.t 61), some (some 53, true)⟩, []),
              (⟨(some 63), .callv (.t 54) [(.t 58), (.t 62)], some (some 53, true)⟩, []),
              (⟨(some 64), .bin .lss (.t 63) (.c (.int .i64 0)), some (some 53, true)⟩, []),
              (⟨(some 65), .pick (.t 53) (.t 64) (.c (.bool false)), none⟩, [])])
            (.cond (.t 65)
              .skip
              (.exit 4)))
            (.block 5
              (.region [
                ⟨(some 66), .move (.t 12), none⟩,
                ⟨(some 67), .bin .sub (.t 66) (.c (.int .i64 1)), none⟩,
                ⟨(some 12), .move (.t 67), none⟩])))))
        (.seq
        (.seq
        (.region [
          ⟨(some 68), .move (.t 11), none⟩,
          ⟨(some 69), .move (.t 12), none⟩,
          ⟨(some 70), .bin .gtr (.t 68) (.t 69), none⟩])
        (.cond (.t 70)
          (.exit 0)
          .skip))
        (.seq
        (.draw [
          (⟨(some 71), .move (.t 0), none⟩, []),
          (⟨(some 72), .move (.t 11), none⟩, []),
          (⟨(some 73), .move (.t 0), none⟩, []),
          (⟨(some 74), .move (.t 12), none⟩, []),
          (⟨(some 75), .move (.t 0), none⟩, []),
          (⟨(some 76), .move (.t 12), none⟩, []),
          (⟨(some 77), .indexAddr 1 (.t 75) (.t 76), none⟩, []),
          (⟨(some 78), .load false 1 (.t 77), none⟩, []),
          (⟨(some 79), .move (.t 0), none⟩, []),
          (⟨(some 80), .move (.t 11), none⟩, []),
          (⟨(some 81), .indexAddr 1 (.t 79) (.t 80), none⟩, []),
          (⟨(some 82), .load false 1 (.t 81), none⟩, []),
          (⟨(some 83), .indexAddr 1 (.t 71) (.t 72), none⟩, []),
          (⟨none, .store 1 (.t 83) (.t 78), none⟩, []),
          (⟨(some 84), .indexAddr 1 (.t 73) (.t 74), none⟩, []),
          (⟨none, .store 1 (.t 84) (.t 82), none⟩, [])])
        (.seq
        (.region [
          ⟨(some 85), .move (.t 11), none⟩,
          ⟨(some 86), .bin .add (.t 85) (.c (.int .i64 1)), none⟩,
          ⟨(some 11), .move (.t 86), none⟩])
        (.region [
          ⟨(some 87), .move (.t 12), none⟩,
          ⟨(some 88), .bin .sub (.t 87) (.c (.int .i64 1)), none⟩,
          ⟨(some 12), .move (.t 88), none⟩])))))))))
  (.seq
  (.region [
    ⟨(some 89), .move (.t 11), none⟩,
    ⟨(some 10), .move (.t 89), none⟩])
  .ret)))))⟩

structure F_slices_partitionEqualCmpFunc_LValue (P : Program) where
  id : FuncId
  has : Has P id [] c_slices_partitionEqualCmpFunc_LValue

def c_slices_partitionCmpFunc_LValue : AFunc := ⟨178, [.tmp 10, .tmp 11],
  (.seq
  (.region [
    ⟨(some 10), .move (.c (.int .i64 0)), none⟩,
    ⟨(some 11), .move (.c (.bool false)), none⟩])
  (.seq
  (.draw [
    (⟨(some 14), .move (.t 0), none⟩, []),
    (⟨(some 15), .move (.t 1), none⟩, []),
    (⟨(some 16), .move (.t 0), none⟩, []),
    (⟨(some 17), .move (.t 3), none⟩, []),
    (⟨(some 18), .move (.t 0), none⟩, []),
    (⟨(some 19), .move (.t 3), none⟩, []),
    (⟨(some 20), .indexAddr 1 (.t 18) (.t 19), none⟩, []),
    (⟨(some 21), .load false 1 (.t 20), none⟩, []),
    (⟨(some 22), .move (.t 0), none⟩, []),
    (⟨(some 23), .move (.t 1), none⟩, []),
    (⟨(some 24), .indexAddr 1 (.t 22) (.t 23), none⟩, []),
    (⟨(some 25), .load false 1 (.t 24), none⟩, []),
    (⟨(some 26), .indexAddr 1 (.t 14) (.t 15), none⟩, []),
    (⟨none, .store 1 (.t 26) (.t 21), none⟩, []),
    (⟨(some 27), .indexAddr 1 (.t 16) (.t 17), none⟩, []),
    (⟨none, .store 1 (.t 27) (.t 25), none⟩, [])])
  (.seq
  (.region [
    ⟨(some 28), .move (.t 1), none⟩,
    ⟨(some 29), .bin .add (.t 28) (.c (.int .i64 1)), none⟩,
    ⟨(some 30), .move (.t 2), none⟩,
    ⟨(some 31), .bin .sub (.t 30) (.c (.int .i64 1)), none⟩,
    ⟨(some 12), .move (.t 29), none⟩,
    ⟨(some 13), .move (.t 31), none⟩])
  (.seq
  (.block 0
    (.loop
      (.seq
      (.seq
      (.draw [
        (⟨(some 32), .move (.t 12), none⟩, []),
        (⟨(some 33), .move (.t 13), none⟩, []),
        (⟨(some 34), .bin .leq (.t 32) (.t 33), none⟩, []),
        (⟨(some 35), .move (.t 34), none⟩, []),
        (⟨(some 36), .move (.t 4), some (some 35, true)⟩, []),
        (⟨(some 37), .move (.t 0), some (some 35, true)⟩, []),
        (⟨(some 38), .move (.t 12), some (some 35, true)⟩, []),
        (⟨(some 39), .indexAddr 1 (.t 37) (.t 38), some (some 35, true)⟩, []),
        (⟨(some 40), .load false 1 (.t 39), some (some 35, true)⟩, []),
        (⟨(some 41), .move (.t 0), some (some 35, true)⟩, []),
        (⟨(some 42), .move (.t 1), some (some 35, true)⟩, []),
        (⟨(some 43), .indexAddr 1 (.t 41) (.t 42), some (some 35, true)⟩, []),
        (⟨(some 44), .load false 1 (.t 43), some (some 35, true)⟩, []),
        (⟨(some 45), .callv (.t 36) [(.t 40), (.t 44)], some (some 35, true)⟩, []),
        (⟨(some 46), .bin .lss (.t 45) (.c (.int .i64 0)), some (some 35, true)⟩, []),
        (⟨(some 47), .pick (.t 35) (.t 46) (.c (.bool false)), none⟩, [])])
      (.cond (.t 47)
        .skip
        (.exit 0)))
      (.block 1
        (.region [
          ⟨(some 48), .move (.t 12), none⟩,
          ⟨(some 49), .bin .add (.t 48) (.c (.int .i64 1)), none⟩,
          ⟨(some 12), .move (.t 49), none⟩])))))
  (.seq
  (.block 2
    (.loop
      (.seq
      (.seq
      (.draw [
        (⟨(some 50), .move (.t 12), none⟩, []),
        (⟨(some 51), .move (.t 13), none⟩, []),
        (⟨(some 52), .bin .leq (.t 50) (.t 51), none⟩, []),
        (⟨(some 53), .move (.t 52), none⟩, []),
        (⟨(some 54), .move (.t 4), some (some 53, true)⟩, []),
        (⟨(some 55), .move (.t 0), some (some 53, true)⟩, []),
        (⟨(some 56), .move (.t 13), some (some 53, true)⟩, []),
        (⟨(some 57), .indexAddr 1 (.t 55) (.t 56), some (some 53, true)⟩, []),
        (⟨(some 58), .load false 1 (.t 57), some (some 53, true)⟩, []),
        (⟨(some 59), .move (.t 0), some (some 53, true)⟩, []),
        (⟨(some 60), .move (.t 1), some (some 53, true)⟩, []),
        (⟨(some 61), .indexAddr 1 (.t 59) (.t 60), some (some 53, true)⟩, []),
        (⟨(some 62), .load false 1 (.t 61), some (some 53, true)⟩, []),
        (⟨(some 63), .callv (.t 54) [(.t 58), (.t 62)], some (some 53, true)⟩, []),
        (⟨(some 64), .bin .lss (.t 63) (.c (.int .i64 0)), some (some 53, true)⟩, []),
        (⟨(some 65), .un .not (.t 64), some (some 53, true)⟩, []),
        (⟨(some 66), .pick (.t 53) (.t 65) (.c (.bool false)), none⟩, [])])
      (.cond (.t 66)
        .skip
        (.exit 2)))
      (.block 3
        (.region [
          ⟨(some 67), .move (.t 13), none⟩,
          ⟨(some 68), .bin .sub (.t 67) (.c (.int .i64 1)), none⟩,
          ⟨(some 13), .move (.t 68), none⟩])))))
  (.seq
  (.seq
  (.region [
    ⟨(some 69), .move (.t 12), none⟩,
    ⟨(some 70), .move (.t 13), none⟩,
    ⟨(some 71), .bin .gtr (.t 69) (.t 70), none⟩])
  (.cond (.t 71)
    (.seq
    (.draw [
      (⟨(some 72), .move (.t 0), none⟩, []),
      (⟨(some 73), .move (.t 13), none⟩, []),
      (⟨(some 74), .move (.t 0), none⟩, []),
      (⟨(some 75), .move (.t 1), none⟩, []),
      (⟨(some 76), .move (.t 0), none⟩, []),
      (⟨(some 77), .move (.t 1), none⟩, []),
      (⟨(some 78), .indexAddr 1 (.t 76) (.t 77), none⟩, []),
      (⟨(some 79), .load false 1 (.t 78), none⟩, []),
      (⟨(some 80), .move (.t 0), none⟩, []),
      (⟨(some 81), .move (.t 13), none⟩, []),
      (⟨(some 82), .indexAddr 1 (.t 80) (.t 81), none⟩, []),
      (⟨(some 83), .load false 1 (.t 82), none⟩, []),
      (⟨(some 84), .indexAddr 1 (.t 72) (.t 73), none⟩, []),
      (⟨none, .store 1 (.t 84) (.t 79), none⟩, []),
      (⟨(some 85), .indexAddr 1 (.t 74) (.t 75), none⟩, []),
      (⟨none, .store 1 (.t 85) (.t 83), none⟩, [])])
    (.seq
    (.region [
      ⟨(some 86), .move (.t 13), none⟩,
      ⟨(some 10), .move (.t 86), none⟩,
      ⟨(some 11), .move (.c (.bool true)), none⟩])
    .ret))
    .skip))
  (.seq
  (.draw [
    (⟨(some 87), .move (.t 0), none⟩, []),
    (⟨(some 88), .move (.t 12), none⟩, []),
    (⟨(some 89), .move (.t 0), none⟩, []),
    (⟨(some 90), .move (.t 13), none⟩, []),
    (⟨(some 91), .move (.t 0), none⟩, []),
    (⟨(some 92), .move (.t 13), none⟩, []),
    (⟨(some 93), .indexAddr 1 (.t 91) (.t 92), none⟩, []),
    (⟨(some 94), .load false 1 (.t 93), none⟩, []),
    (⟨(some 95), .move (.t 0), none⟩, []),
    (⟨(some 96), .move (.t 12), none⟩, []),
    (⟨(some 97), .indexAddr 1 (.t 95) (.t 96), none⟩, []),
    (⟨(some 98), .load false 1 (.t 97), none⟩, []),
    (⟨(some 99), .indexAddr 1 (.t 87) (.t 88), none⟩, []),
    (⟨none, .store 1 (.t 99) (.t 94), none⟩, []),
    (⟨(some 100), .indexAddr 1 (.t 89) (.t 90), none⟩, []),
    (⟨none, .store 1 (.t 100) (.t 98), none⟩, [])])
  (.seq
  (.region [
    ⟨(some 101), .move (.t 12), none⟩,
    ⟨(some 102), .bin .add (.t 101) (.c (.int .i64 1)), none⟩,
    ⟨(some 12), .move (.t 102), none⟩])
  (.seq
  (.region [
    ⟨(some 103), .move (.t 13), none⟩,
    ⟨(some 104), .bin .sub (.t 103) (.c (.int .i64 1)), none⟩,
    ⟨(some 13), .move (.t 104), none⟩])
  (.seq
  (.block 4
    (.loop
      (.block 5
        (.seq
        (.block 6
          (.loop
            (.seq
            (.seq
            (.draw [
              (⟨(some 105), .move (.t 12), none⟩, []),
              (⟨(some 106), .move (.t 13), none⟩, []),
              (⟨(some 107), .bin .leq (.t 105) (.t 106), none⟩, []),
              (⟨(some 108), .move (.t 107), none⟩, []),
              (⟨(some 109), .move (.t 4), some (some 108, true)⟩, []),
              (⟨(some 110), .move (.t 0), some (some 108, true)⟩, []),
              (⟨(some 111), .move (.t 12), some (some 108, true)⟩, []),
              (⟨(some 112), .indexAddr 1 (.t 110) (.t 111), some (some 108, true)⟩, []),
              (⟨(some 113), .load false 1 (.t 112), some (some 108, true)⟩, []),
              (⟨(some 114), .move (.t 0), some (some 108, true)⟩, []),
              (⟨(some 115), .move (.t 1), some (some 108, true)⟩, []),
              (⟨(some 116), .indexAddr 1 (.t 114) (.t 115), some (some 108, true)⟩, []),
              (⟨(some 117), .load false 1 (.t 116), some (some 108, true)⟩, []),
              (⟨(some 118), .callv (.t 109) [(.t 113), (.t 117)], some (some 108, true)⟩, []),
              (⟨(some 119), .bin .lss (.t 118) (.c (.int .i64 0)), some (some 108, true)⟩, []),
              (⟨(some 120), .pick (.t 108) (.t 119) (.c (.bool false)), none⟩, [])])
            (.cond (.t 120)
              .skip
              (.exit 6)))
            (.block 7
              (.region [
                ⟨(some 121), .move (.t 12), none⟩,
                ⟨(some 122), .bin .add (.t 121) (.c (.int .i64 1)), none⟩,
                ⟨(some 12), .move (.t 122), none⟩])))))
        (.seq
        (.block 8
          (.loop
            (.seq
            (.seq
            (.draw [
              (⟨(some 123), .move (.t 12), none⟩, []),
              (⟨(some 124), .move (.t 13), none⟩, []),
              (⟨(some 125), .bin .leq (.t 123) (.t 124), none⟩, []),
              (⟨(some 126), .move (.t 125), none⟩, []),
              (⟨(some 127), .move (.t 4), some (some 126, true)⟩, []),
              (⟨(some 128), .move (.t 0), some (some 126, true)⟩, []),
              (⟨(some 129), .move (.t 13), some (some 126, true)⟩, []),
              (⟨(some 130), .indexAddr 1 (.t 128) (.t 129), some (some 126, true)⟩, []),
              (⟨(some 131), .load false 1 (.t 130), some (some 126, true)⟩, []),
              (⟨(some 132), .move (.t 0), some (some 126, true)⟩, []),
              (⟨(some 133), .move (.t 1), some (some 126, true)⟩, []),
              (⟨(some 134), .indexAddr 1 (.t 132) (.t 133), some (some 126, true)⟩, []),
              (⟨(some 135), .load false 1 (.t 134), some (some 126, true)⟩, []),
              (⟨(some 136), .callv (.t 127) [(.t 131), (.t 135)], some (some 126, true)⟩, []),
              (⟨(some 137), .bin .lss (.t 136) (.c (.int .i64 0)), some (some 126, true)⟩, []),
              (⟨(some 138), .un .not (.t 137), some (some 126, true)⟩, []),
              (⟨(some 139), .pick (.t 126) (.t 138) (.c (.bool false)), none⟩, [])])
            (.cond (.t 139)
              .skip
              (.exit 8)))
            (.block 9
              (.region [
                ⟨(some 140), .move (.t 13), none⟩,
                ⟨(some 141), .bin .sub (.t 140) (.c (.int .i64 1)), none⟩,
                ⟨(some 13), .move (.t 141), none⟩])))))
        (.seq
        (.seq
        (.region [
          ⟨(some 142), .move (.t 12), none⟩,
          ⟨(some 143), .move (.t 13), none⟩,
          ⟨(some 144), .bin .gtr (.t 142) (.t 143), none⟩])
        (.cond (.t 144)
          (.exit 4)
          .skip))
        (.seq
        (.draw [
          (⟨(some 145), .move (.t 0), none⟩, []),
          (⟨(some 146), .move (.t 12), none⟩, []),
          (⟨(some 147), .move (.t 0), none⟩, []),
          (⟨(some 148), .move (.t 13), none⟩, []),
          (⟨(some 149), .move (.t 0), none⟩, []),
          (⟨(some 150), .move (.t 13), none⟩, []),
          (⟨(some 151), .indexAddr 1 (.t 149) (.t 150), none⟩, []),
          (⟨(some 152), .load false 1 (.t 151), none⟩, []),
          (⟨(some 153), .move (.t 0), none⟩, []),
          (⟨(some 154), .move (.t 12), none⟩, []),
          (⟨(some 155), .indexAddr 1 (.t 153) (.t 154), none⟩, []),
          (⟨(some 156), .load false 1 (.t 155), none⟩, []),
          (⟨(some 157), .indexAddr 1 (.t 145) (.t 146), none⟩, []),
          (⟨none, .store 1 (.t 157) (.t 152), none⟩, []),
          (⟨(some 158), .indexAddr 1 (.t 147) (.t 148), none⟩, []),
          (⟨none, .store 1 (.t 158) (.t 156), none⟩, [])])
        (.seq
        (.region [
          ⟨(some 159), .move (.t 12), none⟩,
          ⟨(some 160), .bin .add (.t 159) (.c (.int .i64 1)), none⟩,
          ⟨(some 12), .move (.t 160), none⟩])
        (.region [
          ⟨(some 161), .move (.t 13), none⟩,
          ⟨(some 162), .bin .sub (.t 161) (.c (.int .i64 1)), none⟩,
          ⟨(some 13), .move (.t 162), none⟩])))))))))
  (.seq
  (.draw [
    (⟨(some 163), .move (.t 0), none⟩, []),
    (⟨(some 164), .move (.t 13), none⟩, []),
    (⟨(some 165), .move (.t 0), none⟩, []),
    (⟨(some 166), .move (.t 1), none⟩, []),
    (⟨(some 167), .move (.t 0), none⟩, []),
    (⟨(some 168), .move (.t 1), none⟩, []),
    (⟨(some 169), .indexAddr 1 (.t 167) (.t 168), none⟩, []),
    (⟨(some 170), .load false 1 (.t 169), none⟩, []),
    (⟨(some 171), .move (.t 0), none⟩, []),
    (⟨(some 172), .move (.t 13), none⟩, []),
    (⟨(some 173), .indexAddr 1 (.t 171) (.t 172), none⟩, []),
    (⟨(some 174), .load false 1 (.t 173), none⟩, []),
    (⟨(some 175), .indexAddr 1 (.t 163) (.t 164), none⟩, []),
    (⟨none, .store 1 (.t 175) (.t 170), none⟩, []),
    (⟨(some 176), .indexAddr 1 (.t 165) (.t 166), none⟩, []),
    (⟨none, .store 1 (.t 176) (.t 174), none⟩, [])])
  (.seq
  (.region [
    ⟨(some 177), .move (.t 13), none⟩,
    ⟨(some 10), .move (.t 177), none⟩,
    ⟨(some 11), .move (.c (.bool false)), none⟩])
  .ret))))))))))))⟩

structure F_slices_partitionCmpFunc_LValue (P : Program) where
  id : FuncId
  has : Has P id [] c_slices_partitionCmpFunc_LValue

def c_slices_pdqsortCmpFunc_LValue (f_slices_insertionSortCmpFunc_LValue : FuncId) (f_slices_heapSortCmpFunc_LValue : FuncId) (f_slices_breakPatternsCmpFunc_LValue : FuncId) (f_slices_choosePivotCmpFunc_LValue : FuncId) (f_slices_reverseRangeCmpFunc_LValue : FuncId) (f_slices_partialInsertionSortCmpFunc_LValue : FuncId) (f_slices_partitionEqualCmpFunc_LValue : FuncId) (f_slices_partitionCmpFunc_LValue : FuncId) (f_slices_pdqsortCmpFunc_LValue : FuncId) : AFunc := ⟨148, [],
  (.seq
  (.region [
    ⟨(some 10), .move (.c (.bool true)), none⟩])
  (.seq
  (.region [
    ⟨(some 11), .move (.c (.bool true)), none⟩])
  (.block 0
    (.loop
      (.block 1
        (.seq
        (.region [
          ⟨(some 21), .move (.t 2), none⟩,
          ⟨(some 22), .move (.t 1), none⟩,
          ⟨(some 23), .bin .sub (.t 21) (.t 22), none⟩,
          ⟨(some 12), .move (.t 23), none⟩])
        (.seq
        (.seq
        (.region [
          ⟨(some 24), .move (.t 12), none⟩,
          ⟨(some 25), .bin .leq (.t 24) (.c (.int .i64 12)), none⟩])
        (.cond (.t 25)
          (.seq
          (.region [
            ⟨(some 26), .move (.t 0), none⟩,
            ⟨(some 27), .move (.t 1), none⟩,
            ⟨(some 28), .move (.t 2), none⟩,
            ⟨(some 29), .move (.t 4), none⟩,
            ⟨(some 30), .call f_slices_insertionSortCmpFunc_LValue [(.t 26), (.t 27), (.t 28), (.t 29)], none⟩])
          .ret)
          .skip))
        (.seq
        (.seq
        (.region [
          ⟨(some 31), .move (.t 3), none⟩,
          ⟨(some 32), .bin .eql (.t 31) (.c (.int .i64 0)), none⟩])
        (.cond (.t 32)
          (.seq
          (.region [
            ⟨(some 33), .move (.t 0), none⟩,
            ⟨(some 34), .move (.t 1), none⟩,
            ⟨(some 35), .move (.t 2), none⟩,
            ⟨(some 36), .move (.t 4), none⟩,
            ⟨(some 37), .call f_slices_heapSortCmpFunc_LValue [(.t 33), (.t 34), (.t 35), (.t 36)], none⟩])
          .ret)
          .skip))
        (.seq
        (.seq
        (.region [
          ⟨(some 38), .move (.t 10), none⟩,
          ⟨(some 39), .un .not (.t 38), none⟩])
        (.cond (.t 39)
          (.seq
          (.region [
            ⟨(some 40), .move (.t 0), none⟩,
            ⟨(some 41), .move (.t 1), none⟩,
            ⟨(some 42), .move (.t 2), none⟩,
            ⟨(some 43), .move (.t 4), none⟩,
            ⟨(some 44), .call f_slices_breakPatternsCmpFunc_LValue [(.t 40), (.t 41), (.t 42), (.t 43)], none⟩])
          (.region [
            ⟨(some 45), .move (.t 3), none⟩,
            ⟨(some 46), .bin .sub (.t 45) (.c (.int .i64 1)), none⟩,
            ⟨(some 3), .move (.t 46), none⟩]))
          .skip))
        (.seq
        (.region [
          ⟨(some 48), .move (.t 0), none⟩,
          ⟨(some 49), .move (.t 1), none⟩,
          ⟨(some 50), .move (.t 2), none⟩,
          ⟨(some 51), .move (.t 4), none⟩,
          ⟨(some 52), .call f_slices_choosePivotCmpFunc_LValue [(.t 48), (.t 49), (.t 50), (.t 51)], none⟩,
          ⟨(some 47), .move (.t 52), none⟩,
          ⟨(some 53), .extract (.t 47) 0, none⟩,
          ⟨(some 54), .extract (.t 47) 1, none⟩,
          ⟨(some 13), .move (.t 53), none⟩,
          ⟨(some 14), .move (.t 54), none⟩])
        (.seq
        (.seq
        (.region [
          ⟨(some 55), .move (.t 14), none⟩,
          ⟨(some 56), .bin .eql (.t 55) (.c (.int .i64 2)), none⟩])
        (.cond (.t 56)
          (.seq
          (.region [
            ⟨(some 57), .move (.t 0), none⟩,
            ⟨(some 58), .move (.t 1), none⟩,
            ⟨(some 59), .move (.t 2), none⟩,
            ⟨(some 60), .move (.t 4), none⟩,
            ⟨(some 61), .call f_slices_reverseRangeCmpFunc_LValue [(.t 57), (.t 58), (.t 59), (.t 60)], none⟩])
          (.seq
          (.region [
            ⟨(some 62), .move (.t 2), none⟩,
            ⟨(some 63), .bin .sub (.t 62) (.c (.int .i64 1)), none⟩,
            ⟨(some 64), .move (.t 13), none⟩,
            ⟨(some 65), .move (.t 1), none⟩,
            ⟨(some 66), .bin .sub (.t 64) (.t 65), none⟩,
            ⟨(some 67), .bin .sub (.t 63) (.t 66), none⟩,
            ⟨(some 13), .move (.t 67), none⟩])
          (.region [
            ⟨(some 14), .move (.c (.int .i64 1)), none⟩])))
          .skip))
        (.seq
        (.seq
        (.region [
          ⟨(some 68), .move (.t 10), none⟩,
          ⟨(some 69), .move (.t 68), none⟩,
          ⟨(some 70), .move (.t 11), some (some 69, true)⟩,
          ⟨(some 71), .pick (.t 69) (.t 70) (.c (.bool false)), none⟩,
          ⟨(some 72), .move (.t 71), none⟩,
          ⟨(some 73), .move (.t 14), some (some 72, true)⟩,
          ⟨(some 74), .bin .eql (.t 73) (.c (.int .i64 1)), some (some 72, true)⟩,
          ⟨(some 75), .pick (.t 72) (.t 74) (.c (.bool false)), none⟩])
        (.cond (.t 75)
          (.seq
          (.region [
            ⟨(some 76), .move (.t 0), none⟩,
            ⟨(some 77), .move (.t 1), none⟩,
            ⟨(some 78), .move (.t 2), none⟩,
            ⟨(some 79), .move (.t 4), none⟩,
            ⟨(some 80), .call f_slices_partialInsertionSortCmpFunc_LValue [(.t 76), (.t 77), (.t 78), (.t 79)], none⟩])
          (.cond (.t 80)
            .ret
            .skip))
          .skip))
        (.seq
        (.seq
        (.draw [
          (⟨(some 81), .move (.t 1), none⟩, []),
          (⟨(some 82), .bin .gtr (.t 81) (.c (.int .i64 0)), none⟩, []),
          (⟨(some 83), .move (.t 82), none⟩, []),
          (⟨(some 84), .move (.t 4), some (some 83, true)⟩, []),
          (⟨(some 85), .move (.t 0), some (some 83, true)⟩, []),
          (⟨(some 86), .move (.t 1), some (some 83, true)⟩, []),
          (⟨(some 87), .bin .sub (.t 86) (.c (.int .i64 1)), some (some 83, true)⟩, []),
          (⟨(some 88), .indexAddr 1 (.t 85) (.t 87), some (some 83, true)⟩, []),
          (⟨(some 89), .load false 1 (.t 88), some (some 83, true)⟩, []),
          (⟨(some 90), .move (.t 0), some (some 83, true)⟩, []),
          (⟨(some 91), .move (.t 13), some (some 83, true)⟩, []),
          (⟨(some 92), .indexAddr 1 (.t 90) (.t 91), some (some 83, true)⟩, []),
          (⟨(some 93), .load false 1 (.t 92), some (some 83, true)⟩, []),
          (⟨(some 94), .callv (.t 84) [(.t 89), (.t 93)], some (some 83, true)⟩, []),
          (⟨(some 95), .bin .lss (.t 94) (.c (.int .i64 0)), some (some 83, true)⟩, []),
          (⟨(some 96), .un .not (.t 95), some (some 83, true)⟩, []),
          (⟨(some 97), .pick (.t 83) (.t 96) (.c (.bool false)), none⟩, [])])
        (.cond (.t 97)
          (.seq
          (.region [
            ⟨(some 98), .move (.t 0), none⟩,
            ⟨(some 99), .move (.t 1), none⟩,
            ⟨(some 100), .move (.t 2), none⟩,
            ⟨(some 101), .move (.t 13), none⟩,
            ⟨(some 102), .move (.t 4), none⟩,
            ⟨(some 103), .call f_slices_partitionEqualCmpFunc_LValue [(.t 98), (.t 99), (.t 100), (.t 101), (.t 102)], none⟩,
            ⟨(some 15), .move (.t 103), none⟩])
          (.seq
          (.region [
            ⟨(some 104), .move (.t 15), none⟩,
            ⟨(some 1), .move (.t 104), none⟩])
          (.exit 1)))
          .skip))
        (.seq
        (.region [
          ⟨(some 106), .move (.t 0), none⟩,
          ⟨(some 107), .move (.t 1), none⟩,
          ⟨(some 108), .move (.t 2), none⟩,
          ⟨(some 109), .move (.t 13), none⟩,
          ⟨(some 110), .move (.t 4), none⟩,
          ⟨(some 111), .call f_slices_partitionCmpFunc_LValue [(.t 106), (.t 107), (.t 108), (.t 109), (.t 110)], none⟩,
          ⟨(some 105), .move (.t 111), none⟩,
          ⟨(some 112), .extract (.t 105) 0, none⟩,
          ⟨(some 113), .extract (.t 105) 1, none⟩,
          ⟨(some 16), .move (.t 112), none⟩,
          ⟨(some 17), .move (.t 113), none⟩])
        (.seq
        (.region [
          ⟨(some 114), .move (.t 17), none⟩,
          ⟨(some 11), .move (.t 114), none⟩])
        (.seq
        (.region [
          ⟨(some 115), .move (.t 16), none⟩,
          ⟨(some 116), .move (.t 1), none⟩,
          ⟨(some 117), .bin .sub (.t 115) (.t 116), none⟩,
          ⟨(some 118), .move (.t 2), none⟩,
          ⟨(some 119), .move (.t 16), none⟩,
          ⟨(some 120), .bin .sub (.t 118) (.t 119), none⟩,
          ⟨(some 18), .move (.t 117), none⟩,
          ⟨(some 19), .move (.t 120), none⟩])
        (.seq
        (.region [
          ⟨(some 121), .move (.t 12), none⟩,
          ⟨(some 122), .bin .quo (.t 121) (.c (.int .i64 8)), none⟩,
          ⟨(some 20), .move (.t 122), none⟩])
        (.seq
        (.region [
          ⟨(some 123), .move (.t 18), none⟩,
          ⟨(some 124), .move (.t 19), none⟩,
          ⟨(some 125), .bin .lss (.t 123) (.t 124), none⟩])
        (.cond (.t 125)
          (.seq
          (.region [
            ⟨(some 126), .move (.t 18), none⟩,
            ⟨(some 127), .move (.t 20), none⟩,
            ⟨(some 128), .bin .geq (.t 126) (.t 127), none⟩,
            ⟨(some 10), .move (.t 128), none⟩])
          (.seq
          (.region [
            ⟨(some 129), .move (.t 0), none⟩,
            ⟨(some 130), .move (.t 1), none⟩,
            ⟨(some 131), .move (.t 16), none⟩,
            ⟨(some 132), .move (.t 3), none⟩,
            ⟨(some 133), .move (.t 4), none⟩,
            ⟨(some 134), .call f_slices_pdqsortCmpFunc_LValue [(.t 129), (.t 130), (.t 131), (.t 132), (.t 133)], none⟩])
          (.region [
            ⟨(some 135), .move (.t 16), none⟩,
            ⟨(some 136), .bin .add (.t 135) (.c (.int .i64 1)), none⟩,
            ⟨(some 1), .move (.t 136), none⟩])))
          (.seq
          (.region [
            ⟨(some 137), .move (.t 19), none⟩,
            ⟨(some 138), .move (.t 20), none⟩,
            ⟨(some 139), .bin .geq (.t 137) (.t 138), none⟩,
            ⟨(some 10), .move (.t 139), none⟩])
          (.seq
          (.region [
            ⟨(some 140), .move (.t 0), none⟩,
            ⟨(some 141), .move (.t 16), none⟩,
            ⟨(some 142), .bin .add (.t 141) (.c (.int .i64 1)), none⟩,
            ⟨(some 143), .move (.t 2), none⟩,
            ⟨(some 144), .move (.t 3), none⟩,
            ⟨(some 145), .move (.t 4), none⟩,
            ⟨(some 146), .call f_slices_pdqsortCmpFunc_LValue [(.t 140), (.t 142), (.t 143), (.t 144), (.t 145)], none⟩])
          (.region [
            ⟨(some 147), .move (.t 16), none⟩,
            ⟨(some 2), .move (.t 147), none⟩]))))))))))))))))))))))⟩

structure F_slices_pdqsortCmpFunc_LValue (P : Program) where
  id : FuncId
  slices_insertionSortCmpFunc_LValue : F_slices_insertionSortCmpFunc_LValue P
  slices_heapSortCmpFunc_LValue : F_slices_heapSortCmpFunc_LValue P
  slices_breakPatternsCmpFunc_LValue : F_slices_breakPatternsCmpFunc_LValue P
  slices_choosePivotCmpFunc_LValue : F_slices_choosePivotCmpFunc_LValue P
  slices_reverseRangeCmpFunc_LValue : F_slices_reverseRangeCmpFunc_LValue P
  slices_partialInsertionSortCmpFunc_LValue : F_slices_partialInsertionSortCmpFunc_LValue P
  slices_partitionEqualCmpFunc_LValue : F_slices_partitionEqualCmpFunc_LValue P
  slices_partitionCmpFunc_LValue : F_slices_partitionCmpFunc_LValue P
  has : Has P id [] (c_slices_pdqsortCmpFunc_LValue slices_insertionSortCmpFunc_LValue.id slices_heapSortCmpFunc_LValue.id slices_breakPatternsCmpFunc_LValue.id slices_choosePivotCmpFunc_LValue.id slices_reverseRangeCmpFunc_LValue.id slices_partialInsertionSortCmpFunc_LValue.id slices_partitionEqualCmpFunc_LValue.id slices_partitionCmpFunc_LValue.id id)

def c_slices_SortFunc_LLValue_LValue (f_math_bits_Len : FuncId) (f_slices_pdqsortCmpFunc_LValue : FuncId) : AFunc := ⟨14, [],
  (.seq
  (.region [
    ⟨(some 5), .move (.t 0), none⟩,
    ⟨(some 6), .len (.t 5), none⟩,
    ⟨(some 4), .move (.t 6), none⟩])
  (.region [
    ⟨(some 7), .move (.t 0), none⟩,
    ⟨(some 8), .move (.t 4), none⟩,
    ⟨(some 9), .move (.t 4), none⟩,
    ⟨(some 10), .conv .u64 (.t 9), none⟩,
    ⟨(some 11), .call f_math_bits_Len [(.t 10)], none⟩,
    ⟨(some 12), .move (.t 1), none⟩,
    ⟨(some 13), .call f_slices_pdqsortCmpFunc_LValue [(.t 7), (.c (.int .i64 0)), (.t 8), (.t 11), (.t 12)], none⟩]))⟩

structure F_slices_SortFunc_LLValue_LValue (P : Program) where
  id : FuncId
  math_bits_Len : F_math_bits_Len P
  slices_pdqsortCmpFunc_LValue : F_slices_pdqsortCmpFunc_LValue P
  has : Has P id [] (c_slices_SortFunc_LLValue_LValue math_bits_Len.id slices_pdqsortCmpFunc_LValue.id)

def c_window_partitions (f_schema_Pick : FuncId) (f_window_fingerprint : FuncId) (f_window_partitions_1 : FuncId) (f_slices_SortFunc_LLValue_LValue : FuncId) : AFunc := ⟨65, [.tmp 6],
  (.seq
  (.seq
  (.region [
    ⟨(some 5), .box (.t 2), none⟩,
    ⟨(some 6), .move (.c .nil), none⟩])
  .ghost)
  (.seq
  (.region [
    ⟨(some 16), .mkMap, none⟩,
    ⟨(some 7), .move (.t 16), none⟩])
  (.seq
  (.region [
    ⟨(some 8), .move (.c .nil), none⟩])
  (.seq
  (.seq
  (.region [
    ⟨(some 17), .move (.t 0), none⟩,
    ⟨(some 18), .len (.t 17), none⟩,
    ⟨(some 19), .move (.c (.int .i64 0)), none⟩])
  (.block 0
    (.loop
      (.seq
      (.region [
        ⟨(some 20), .bin .lss (.t 19) (.t 18), none⟩])
      (.seq
      (.cond (.t 20)
        .skip
        (.exit 0))
      (.seq
      (.block 1
        (.seq
        (.region [
          ⟨(some 21), .indexAddr 1 (.t 17) (.t 19), none⟩,
          ⟨(some 22), .load false 1 (.t 21), none⟩,
          ⟨(some 10), .move (.t 22), none⟩])
        (.seq
        (.region [
          ⟨(some 23), .move (.t 10), none⟩,
          ⟨(some 24), .move (.t 1), none⟩,
          ⟨(some 25), .call f_schema_Pick [(.t 23), (.t 24)], none⟩,
          ⟨(some 26), .call f_window_fingerprint [(.t 25)], none⟩,
          ⟨(some 11), .move (.t 26), none⟩])
        (.seq
        (.region [
          ⟨(some 28), .move (.t 7), none⟩,
          ⟨(some 29), .move (.t 11), none⟩,
          ⟨(some 30), .lookupM 2 (.int .i64 0) true (.t 28) (.t 29), none⟩,
          ⟨(some 27), .move (.t 30), none⟩,
          ⟨(some 31), .extract (.t 27) 0, none⟩,
          ⟨(some 32), .extract (.t 27) 1, none⟩,
          ⟨(some 12), .move (.t 31), none⟩,
          ⟨(some 13), .move (.t 32), none⟩])
        (.seq
        (.seq
        (.region [
          ⟨(some 33), .move (.t 13), none⟩,
          ⟨(some 34), .un .not (.t 33), none⟩])
        (.cond (.t 34)
          (.seq
          (.region [
            ⟨(some 35), .move (.t 8), none⟩,
            ⟨(some 36), .len (.t 35), none⟩,
            ⟨(some 12), .move (.t 36), none⟩])
          (.seq
          (.region [
            ⟨(some 37), .move (.t 7), none⟩,
            ⟨(some 38), .move (.t 11), none⟩,
            ⟨(some 39), .move (.t 12), none⟩,
            ⟨none, .mapSet 2 (.t 37) (.t 38) (.t 39), none⟩])
          (.region [
            ⟨(some 40), .move (.t 8), none⟩,
            ⟨(some 41), .buildSlice 1 1 [.nil] [(0, (.c .nil))], none⟩,
            ⟨(some 42), .append 1 24 [.nil] (.t 40) (.t 41), none⟩,
            ⟨(some 8), .move (.t 42), none⟩])))
          .skip))
        (.region [
          ⟨(some 43), .move (.t 8), none⟩,
          ⟨(some 44), .move (.t 12), none⟩,
          ⟨(some 45), .move (.t 8), none⟩,
          ⟨(some 46), .move (.t 12), none⟩,
          ⟨(some 47), .indexAddr 1 (.t 45) (.t 46), none⟩,
          ⟨(some 48), .load false 1 (.t 47), none⟩,
          ⟨(some 49), .move (.t 10), none⟩,
          ⟨(some 50), .buildSlice 1 1 [.nil] [(0, (.t 49))], none⟩,
          ⟨(some 51), .append 1 24 [.nil] (.t 48) (.t 50), none⟩,
          ⟨(some 52), .indexAddr 1 (.t 43) (.t 44), none⟩,
          ⟨none, .store 1 (.t 52) (.t 51), none⟩]))))))
      (.region [
        ⟨(some 53), .bin .add (.t 19) (.c (.int .i64 1)), none⟩,
        ⟨(some 19), .move (.t 53), none⟩])))))))
  (.seq
  (.seq
  (.region [
    ⟨(some 54), .move (.t 8), none⟩,
    ⟨(some 55), .len (.t 54), none⟩,
    ⟨(some 56), .move (.c (.int .i64 0)), none⟩])
  (.seq
  (.block 2
    (.loop
      (.seq
      (.region [
        ⟨(some 57), .bin .lss (.t 56) (.t 55), none⟩])
      (.seq
      (.cond (.t 57)
        .skip
        (.exit 2))
      (.seq
      (.block 3
        (.seq
        (.region [
          ⟨(some 58), .indexAddr 1 (.t 54) (.t 56), none⟩,
          ⟨(some 59), .load false 1 (.t 58), none⟩,
          ⟨(some 15), .move (.t 59), none⟩])
        (.region [
          ⟨(some 60), .move (.t 15), none⟩,
          ⟨(some 61), .makeFunc f_window_partitions_1 [(.t 5)], none⟩,
          ⟨(some 62), .call f_slices_SortFunc_LLValue_LValue [(.t 60), (.t 61)], none⟩])))
      (.region [
        ⟨(some 63), .bin .add (.t 56) (.c (.int .i64 1)), none⟩,
        ⟨(some 56), .move (.t 63), none⟩]))))))
  .ghost))
  (.seq
  (.region [
    ⟨(some 64), .move (.t 8), none⟩,
    ⟨(some 6), .move (.t 64), none⟩])
  .ret))))))⟩

structure F_window_partitions (P : Program) where
  id : FuncId
  schema_Pick : F_schema_Pick P
  window_fingerprint : F_window_fingerprint P
  window_partitions_1 : F_window_partitions_1 P
  slices_SortFunc_LLValue_LValue : F_slices_SortFunc_LLValue_LValue P
  has : Has P id [100005, 200002] (c_window_partitions schema_Pick.id window_fingerprint.id window_partitions_1.id slices_SortFunc_LLValue_LValue.id)

def c_window_column_1 (f_window_cell : FuncId) : AFunc := ⟨20, [.cell true 3 5],
  (.seq
  (.region [
    ⟨(some 5), .alloc [(.int .i64 0), (.int .i64 0), (.str (bs []))], none⟩])
  (.seq
  (.seq
  (.region [
    ⟨(some 6), .move (.t 0), none⟩,
    ⟨(some 7), .bin .lss (.t 6) (.c (.int .i64 0)), none⟩,
    ⟨(some 8), .move (.t 7), none⟩,
    ⟨(some 9), .move (.t 0), some (some 8, false)⟩,
    ⟨(some 10), .load false 1 (.t 1), some (some 8, false)⟩,
    ⟨(some 11), .bin .geq (.t 9) (.t 10), some (some 8, false)⟩,
    ⟨(some 12), .pick (.t 8) (.c (.bool true)) (.t 11), none⟩])
  (.cond (.t 12)
    (.seq
    (.region [
      ⟨(some 13), .build [(.int .i64 0), (.int .i64 0), (.str (bs []))] [], none⟩,
      ⟨none, .store 3 (.t 5) (.t 13), none⟩])
    .ret)
    .skip))
  (.seq
  (.draw [
    (⟨(some 14), .load false 1 (.t 2), none⟩, []),
    (⟨(some 15), .move (.t 0), none⟩, []),
    (⟨(some 16), .indexAddr 1 (.t 14) (.t 15), none⟩, []),
    (⟨(some 17), .load false 1 (.t 16), none⟩, []),
    (⟨(some 18), .load false 1 (.t 3), none⟩, []),
    (⟨(some 19), .call f_window_cell [(.t 17), (.t 18)], none⟩, []),
    (⟨none, .store 3 (.t 5) (.t 19), none⟩, [])])
  .ret)))⟩

structure F_window_column_1 (P : Program) where
  id : FuncId
  window_cell : F_window_cell P
  has : Has P id [] (c_window_column_1 window_cell.id)

def c_window_integer : AFunc := ⟨12, [.cell true 3 2],
  (.seq
  (.region [
    ⟨(some 2), .alloc [(.int .i64 0), (.int .i64 0), (.str (bs []))], none⟩])
  (.seq
  (.seq
  (.region [
    ⟨(some 3), .move (.t 0), none⟩,
    ⟨(some 4), .bin .lss (.t 3) (.c (.int .i64 (-1073741824))), none⟩,
    ⟨(some 5), .move (.t 4), none⟩,
    ⟨(some 6), .move (.t 0), some (some 5, false)⟩,
    ⟨(some 7), .bin .gtr (.t 6) (.c (.int .i64 1073741824)), some (some 5, false)⟩,
    ⟨(some 8), .pick (.t 5) (.c (.bool true)) (.t 7), none⟩])
  (.cond (.t 8)
    (.seq
    (.region [
      ⟨(some 9), .build [(.int .i64 0), (.int .i64 0), (.str (bs []))] [], none⟩,
      ⟨none, .store 3 (.t 2) (.t 9), none⟩])
    .ret)
    .skip))
  (.seq
  (.region [
    ⟨(some 10), .move (.t 0), none⟩,
    ⟨(some 11), .build [(.int .i64 0), (.int .i64 0), (.str (bs []))] [(0, 1, (.c (.int .i64 2))), (1, 1, (.t 10))], none⟩,
    ⟨none, .store 3 (.t 2) (.t 11), none⟩])
  .ret)))⟩

structure F_window_integer (P : Program) where
  id : FuncId
  has : Has P id [] c_window_integer

def c_window_column (f_window_column_1 : FuncId) (f_window_integer : FuncId) (f_schema_Pick : FuncId) (f_value_CompareRows : FuncId) : AFunc := ⟨130, [.tmp 8],
  (.seq
  (.region [
    ⟨(some 4), .box (.t 0), none⟩,
    ⟨(some 5), .box (.t 1), none⟩,
    ⟨(some 7), .box (.t 3), none⟩,
    ⟨(some 8), .move (.c .nil), none⟩])
  (.seq
  (.seq
  (.region [
    ⟨(some 17), .load false 1 (.t 5), none⟩,
    ⟨(some 18), .len (.t 17), none⟩,
    ⟨(some 9), .alloc [(.int .i64 0)], none⟩,
    ⟨none, .store 1 (.t 9) (.t 18), none⟩])
  .ghost)
  (.seq
  (.region [
    ⟨(some 19), .makeFunc f_window_column_1 [(.t 9), (.t 5), (.t 7)], none⟩,
    ⟨(some 10), .move (.t 19), none⟩])
  (.seq
  (.region [
    ⟨(some 20), .load false 1 (.t 9), none⟩,
    ⟨(some 21), .mkSlice 3 32 [(.int .i64 0), (.int .i64 0), (.str (bs []))] (.t 20) (.t 20), none⟩,
    ⟨(some 11), .move (.t 21), none⟩])
  (.seq
  (.region [
    ⟨(some 12), .move (.c (.int .i64 1)), none⟩,
    ⟨(some 13), .move (.c (.int .i64 0)), none⟩,
    ⟨(some 14), .move (.c (.bool false)), none⟩])
  (.seq
  (.seq
  (.region [
    ⟨(some 22), .load false 1 (.t 5), none⟩,
    ⟨(some 23), .len (.t 22), none⟩,
    ⟨(some 24), .move (.c (.int .i64 0)), none⟩])
  (.block 0
    (.loop
      (.seq
      (.region [
        ⟨(some 25), .bin .lss (.t 24) (.t 23), none⟩])
      (.seq
      (.cond (.t 25)
        .skip
        (.exit 0))
      (.seq
      (.block 1
        (.seq
        (.region [
          ⟨(some 26), .move (.t 24), none⟩,
          ⟨(some 15), .move (.t 26), none⟩])
        (.seq
        (.region [
          ⟨(some 27), .fieldAddr 1 (.t 4), none⟩,
          ⟨(some 28), .load false 1 (.t 27), none⟩])
        (.block 2
          (.seq
          (.region [
            ⟨(some 30), .bin .eql (.t 28) (.c (.int .i64 1)), none⟩,
            ⟨(some 29), .move (.t 30), none⟩])
          (.cond (.t 29)
            (.region [
              ⟨(some 31), .move (.t 11), none⟩,
              ⟨(some 32), .move (.t 15), none⟩,
              ⟨(some 33), .load false 1 (.t 9), none⟩,
              ⟨(some 34), .call f_window_integer [(.t 33)], none⟩,
              ⟨(some 35), .indexAddr 3 (.t 31) (.t 32), none⟩,
              ⟨none, .store 3 (.t 35) (.t 34), none⟩])
            (.seq
            (.region [
              ⟨(some 37), .bin .eql (.t 28) (.c (.int .i64 8)), none⟩,
              ⟨(some 36), .move (.t 37), none⟩])
            (.cond (.t 36)
              (.region [
                ⟨(some 38), .move (.t 11), none⟩,
                ⟨(some 39), .move (.t 15), none⟩,
                ⟨(some 40), .move (.t 15), none⟩,
                ⟨(some 41), .bin .add (.t 40) (.c (.int .i64 1)), none⟩,
                ⟨(some 42), .call f_window_integer [(.t 41)], none⟩,
                ⟨(some 43), .indexAddr 3 (.t 38) (.t 39), none⟩,
                ⟨none, .store 3 (.t 43) (.t 42), none⟩])
              (.seq
              (.region [
                ⟨(some 45), .bin .eql (.t 28) (.c (.int .i64 9)), none⟩,
                ⟨(some 44), .move (.t 45), none⟩])
              (.cond (.t 44)
                (.seq
                (.seq
                (.draw [
                  (⟨(some 46), .move (.t 15), none⟩, []),
                  (⟨(some 47), .bin .gtr (.t 46) (.c (.int .i64 0)), none⟩, []),
                  (⟨(some 48), .move (.t 47), none⟩, []),
                  (⟨(some 49), .load false 1 (.t 5), some (some 48, true)⟩, []),
                  (⟨(some 50), .move (.t 15), some (some 48, true)⟩, []),
                  (⟨(some 51), .bin .sub (.t 50) (.c (.int .i64 1)), some (some 48, true)⟩, []),
                  (⟨(some 52), .indexAddr 1 (.t 49) (.t 51), some (some 48, true)⟩, []),
                  (⟨(some 53), .load false 1 (.t 52), some (some 48, true)⟩, []),
                  (⟨(some 54), .move (.t 2), some (some 48, true)⟩, []),
                  (⟨(some 55), .call f_schema_Pick [(.t 53), (.t 54)], some (some 48, true)⟩, []),
                  (⟨(some 56), .load false 1 (.t 5), some (some 48, true)⟩, []),
                  (⟨(some 57), .move (.t 15), some (some 48, true)⟩, []),
                  (⟨(some 58), .indexAddr 1 (.t 56) (.t 57), some (some 48, true)⟩, []),
                  (⟨(some 59), .load false 1 (.t 58), some (some 48, true)⟩, []),
                  (⟨(some 60), .move (.t 2), some (some 48, true)⟩, []),
                  (⟨(some 61), .call f_schema_Pick [(.t 59), (.t 60)], some (some 48, true)⟩, []),
                  (⟨(some 62), .call f_value_CompareRows [(.t 55), (.t 61)], some (some 48, true)⟩, []),
                  (⟨(some 63), .bin .neq (.t 62) (.c (.int .i64 0)), some (some 48, true)⟩, []),
                  (⟨(some 64), .pick (.t 48) (.t 63) (.c (.bool false)), none⟩, [])])
                (.cond (.t 64)
                  (.region [
                    ⟨(some 65), .move (.t 15), none⟩,
                    ⟨(some 66), .bin .add (.t 65) (.c (.int .i64 1)), none⟩,
                    ⟨(some 12), .move (.t 66), none⟩])
                  .skip))
                (.region [
                  ⟨(some 67), .move (.t 11), none⟩,
                  ⟨(some 68), .move (.t 15), none⟩,
                  ⟨(some 69), .move (.t 12), none⟩,
                  ⟨(some 70), .call f_window_integer [(.t 69)], none⟩,
                  ⟨(some 71), .indexAddr 3 (.t 67) (.t 68), none⟩,
                  ⟨none, .store 3 (.t 71) (.t 70), none⟩]))
                (.seq
                (.region [
                  ⟨(some 73), .bin .eql (.t 28) (.c (.int .i64 3)), none⟩,
                  ⟨(some 72), .move (.t 73), none⟩])
                (.cond (.t 72)
                  (.seq
                  (.seq
                  (.region [
                    ⟨(some 74), .move (.t 10), none⟩,
                    ⟨(some 75), .move (.t 15), none⟩,
                    ⟨(some 76), .callv (.t 74) [(.t 75)], none⟩,
                    ⟨(some 16), .alloc [(.int .i64 0), (.int .i64 0), (.str (bs []))], none⟩,
                    ⟨none, .store 3 (.t 16) (.t 76), none⟩])
                  (.seq
                  (.region [
                    ⟨(some 77), .fieldAddr 0 (.t 16), none⟩,
                    ⟨(some 78), .load false 1 (.t 77), none⟩,
                    ⟨(some 79), .bin .neq (.t 78) (.c (.int .i64 0)), none⟩])
                  (.cond (.t 79)
                    (.region [
                      ⟨(some 80), .move (.t 13), none⟩,
                      ⟨(some 81), .fieldAddr 1 (.t 16), none⟩,
                      ⟨(some 82), .load false 1 (.t 81), none⟩,
                      ⟨(some 83), .bin .add (.t 80) (.t 82), none⟩,
                      ⟨(some 13), .move (.t 83), none⟩,
                      ⟨(some 14), .move (.c (.bool true)), none⟩])
                    .skip)))
                  (.seq
                  (.region [
                    ⟨(some 84), .move (.t 14), none⟩])
                  (.cond (.t 84)
                    (.region [
                      ⟨(some 85), .move (.t 11), none⟩,
                      ⟨(some 86), .move (.t 15), none⟩,
                      ⟨(some 87), .move (.t 13), none⟩,
                      ⟨(some 88), .call f_window_integer [(.t 87)], none⟩,
                      ⟨(some 89), .indexAddr 3 (.t 85) (.t 86), none⟩,
                      ⟨none, .store 3 (.t 89) (.t 88), none⟩])
                    .skip)))
                  (.seq
                  (.region [
                    ⟨(some 91), .bin .eql (.t 28) (.c (.int .i64 10)), none⟩,
                    ⟨(some 90), .move (.t 91), none⟩])
                  (.cond (.t 90)
                    (.region [
                      ⟨(some 92), .move (.t 11), none⟩,
                      ⟨(some 93), .move (.t 15), none⟩,
                      ⟨(some 94), .move (.t 10), none⟩,
                      ⟨(some 95), .move (.t 15), none⟩,
                      ⟨(some 96), .fieldAddr 3 (.t 4), none⟩,
                      ⟨(some 97), .load false 1 (.t 96), none⟩,
                      ⟨(some 98), .bin .sub (.t 95) (.t 97), none⟩,
                      ⟨(some 99), .callv (.t 94) [(.t 98)], none⟩,
                      ⟨(some 100), .indexAddr 3 (.t 92) (.t 93), none⟩,
                      ⟨none, .store 3 (.t 100) (.t 99), none⟩])
                    (.seq
                    (.region [
                      ⟨(some 102), .bin .eql (.t 28) (.c (.int .i64 11)), none⟩,
                      ⟨(some 101), .move (.t 102), none⟩])
                    (.cond (.t 101)
                      (.region [
                        ⟨(some 103), .move (.t 11), none⟩,
                        ⟨(some 104), .move (.t 15), none⟩,
                        ⟨(some 105), .move (.t 10), none⟩,
                        ⟨(some 106), .move (.t 15), none⟩,
                        ⟨(some 107), .fieldAddr 3 (.t 4), none⟩,
                        ⟨(some 108), .load false 1 (.t 107), none⟩,
                        ⟨(some 109), .bin .add (.t 106) (.t 108), none⟩,
                        ⟨(some 110), .callv (.t 105) [(.t 109)], none⟩,
                        ⟨(some 111), .indexAddr 3 (.t 103) (.t 104), none⟩,
                        ⟨none, .store 3 (.t 111) (.t 110), none⟩])
                      (.seq
                      (.region [
                        ⟨(some 113), .bin .eql (.t 28) (.c (.int .i64 12)), none⟩,
                        ⟨(some 112), .move (.t 113), none⟩])
                      (.cond (.t 112)
                        (.region [
                          ⟨(some 114), .move (.t 11), none⟩,
                          ⟨(some 115), .move (.t 15), none⟩,
                          ⟨(some 116), .move (.t 10), none⟩,
                          ⟨(some 117), .callv (.t 116) [(.c (.int .i64 0))], none⟩,
                          ⟨(some 118), .indexAddr 3 (.t 114) (.t 115), none⟩,
                          ⟨none, .store 3 (.t 118) (.t 117), none⟩])
                        (.seq
                        (.region [
                          ⟨(some 120), .bin .eql (.t 28) (.c (.int .i64 13)), none⟩,
                          ⟨(some 119), .move (.t 120), none⟩])
                        (.cond (.t 119)
                          (.region [
                            ⟨(some 121), .move (.t 11), none⟩,
                            ⟨(some 122), .move (.t 15), none⟩,
                            ⟨(some 123), .move (.t 10), none⟩,
                            ⟨(some 124), .load false 1 (.t 9), none⟩,
                            ⟨(some 125), .bin .sub (.t 124) (.c (.int .i64 1)), none⟩,
                            ⟨(some 126), .callv (.t 123) [(.t 125)], none⟩,
                            ⟨(some 127), .indexAddr 3 (.t 121) (.t 122), none⟩,
                            ⟨none, .store 3 (.t 127) (.t 126), none⟩])
                          .skip))))))))))))))))))))
      (.region [
        ⟨(some 128), .bin .add (.t 24) (.c (.int .i64 1)), none⟩,
        ⟨(some 24), .move (.t 128), none⟩])))))))
  (.seq
  (.region [
    ⟨(some 129), .move (.t 11), none⟩,
    ⟨(some 8), .move (.t 129), none⟩])
  .ret)))))))⟩

structure F_window_column (P : Program) where
  id : FuncId
  window_column_1 : F_window_column_1 P
  window_integer : F_window_integer P
  schema_Pick : F_schema_Pick P
  value_CompareRows : F_value_CompareRows P
  has : Has P id [100009] (c_window_column window_column_1.id window_integer.id schema_Pick.id value_CompareRows.id)

def c_window_Apply (f_bag_Expand : FuncId) (f_window_check : FuncId) (f_window_partitions : FuncId) (f_window_column : FuncId) (f_slices_Clone_LValue_Value : FuncId) (f_bag_Normalize : FuncId) : AFunc := ⟨102, [.tmp 10, .tmp 11],
  (.seq
  (.region [
    ⟨(some 10), .move (.c .nil), none⟩,
    ⟨(some 11), .move (.c (.int .i64 0)), none⟩])
  (.seq
  (.region [
    ⟨(some 26), .move (.t 4), none⟩,
    ⟨(some 27), .call f_bag_Expand [(.t 26)], none⟩,
    ⟨(some 25), .move (.t 27), none⟩,
    ⟨(some 28), .extract (.t 25) 0, none⟩,
    ⟨(some 29), .extract (.t 25) 1, none⟩,
    ⟨(some 12), .move (.t 28), none⟩,
    ⟨(some 13), .move (.t 29), none⟩])
  (.seq
  (.seq
  (.region [
    ⟨(some 30), .move (.t 13), none⟩,
    ⟨(some 31), .bin .neq (.t 30) (.c (.int .i64 0)), none⟩])
  (.cond (.t 31)
    (.seq
    (.region [
      ⟨(some 32), .move (.t 13), none⟩,
      ⟨(some 10), .move (.c .nil), none⟩,
      ⟨(some 11), .move (.t 32), none⟩])
    .ret)
    .skip))
  (.seq
  (.seq
  (.region [
    ⟨(some 33), .move (.t 0), none⟩,
    ⟨(some 34), .move (.t 3), none⟩,
    ⟨(some 35), .move (.t 12), none⟩,
    ⟨(some 36), .call f_window_check [(.t 33), (.t 34), (.t 35)], none⟩,
    ⟨(some 14), .move (.t 36), none⟩])
  (.seq
  (.region [
    ⟨(some 37), .move (.t 14), none⟩,
    ⟨(some 38), .bin .neq (.t 37) (.c (.int .i64 0)), none⟩])
  (.cond (.t 38)
    (.seq
    (.region [
      ⟨(some 39), .move (.t 14), none⟩,
      ⟨(some 10), .move (.c .nil), none⟩,
      ⟨(some 11), .move (.t 39), none⟩])
    .ret)
    .skip)))
  (.seq
  (.region [
    ⟨(some 15), .move (.c .nil), none⟩])
  (.seq
  (.seq
  (.region [
    ⟨(some 40), .move (.t 12), none⟩,
    ⟨(some 41), .move (.t 1), none⟩,
    ⟨(some 42), .move (.t 2), none⟩,
    ⟨(some 43), .call f_window_partitions [(.t 40), (.t 41), (.t 42)], none⟩,
    ⟨(some 44), .len (.t 43), none⟩,
    ⟨(some 45), .move (.c (.int .i64 0)), none⟩])
  (.seq
  (.block 0
    (.loop
      (.seq
      (.region [
        ⟨(some 46), .bin .lss (.t 45) (.t 44), none⟩])
      (.seq
      (.cond (.t 46)
        .skip
        (.exit 0))
      (.seq
      (.block 1
        (.seq
        (.region [
          ⟨(some 47), .indexAddr 1 (.t 43) (.t 45), none⟩,
          ⟨(some 48), .load false 1 (.t 47), none⟩,
          ⟨(some 17), .move (.t 48), none⟩])
        (.seq
        (.region [
          ⟨(some 18), .move (.c .nil), none⟩])
        (.seq
        (.seq
        (.region [
          ⟨(some 49), .move (.t 0), none⟩,
          ⟨(some 50), .len (.t 49), none⟩,
          ⟨(some 51), .move (.c (.int .i64 0)), none⟩])
        (.block 2
          (.loop
            (.seq
            (.region [
              ⟨(some 52), .bin .lss (.t 51) (.t 50), none⟩])
            (.seq
            (.cond (.t 52)
              .skip
              (.exit 2))
            (.seq
            (.block 3
              (.seq
              (.region [
                ⟨(some 53), .move (.t 51), none⟩,
                ⟨(some 54), .indexAddr 5 (.t 49) (.t 51), none⟩,
                ⟨(some 55), .load true 5 (.t 54), none⟩,
                ⟨(some 20), .alloc [(.str (bs [])), (.int .i64 0), (.str (bs [])), (.int .i64 0), .nil], none⟩,
                ⟨(some 19), .move (.t 53), none⟩,
                ⟨none, .store 5 (.t 20) (.t 55), none⟩])
              (.draw [
                (⟨(some 56), .move (.t 18), none⟩, []),
                (⟨(some 57), .load true 5 (.t 20), none⟩, []),
                (⟨(some 58), .move (.t 17), none⟩, []),
                (⟨(some 59), .move (.t 2), none⟩, []),
                (⟨(some 60), .move (.t 3), none⟩, []),
                (⟨(some 61), .move (.t 19), none⟩, []),
                (⟨(some 62), .indexAddr 1 (.t 60) (.t 61), none⟩, []),
                (⟨(some 63), .load false 1 (.t 62), none⟩, []),
                (⟨(some 64), .call f_window_column [(.t 57), (.t 58), (.t 59), (.t 63)], none⟩, []),
                (⟨(some 65), .buildSlice 1 1 [.nil] [(0, (.t 64))], none⟩, []),
                (⟨(some 66), .append 1 24 [.nil] (.t 56) (.t 65), none⟩, []),
                (⟨(some 18), .move (.t 66), none⟩, [])])))
            (.region [
              ⟨(some 67), .bin .add (.t 51) (.c (.int .i64 1)), none⟩,
              ⟨(some 51), .move (.t 67), none⟩])))))))
        (.seq
        (.region [
          ⟨(some 68), .move (.t 17), none⟩,
          ⟨(some 69), .len (.t 68), none⟩,
          ⟨(some 70), .move (.c (.int .i64 0)), none⟩])
        (.block 4
          (.loop
            (.seq
            (.region [
              ⟨(some 71), .bin .lss (.t 70) (.t 69), none⟩])
            (.seq
            (.cond (.t 71)
              .skip
              (.exit 4))
            (.seq
            (.block 5
              (.seq
              (.region [
                ⟨(some 72), .move (.t 70), none⟩,
                ⟨(some 73), .indexAddr 1 (.t 68) (.t 70), none⟩,
                ⟨(some 74), .load false 1 (.t 73), none⟩,
                ⟨(some 21), .move (.t 72), none⟩,
                ⟨(some 22), .move (.t 74), none⟩])
              (.seq
              (.region [
                ⟨(some 75), .move (.t 22), none⟩,
                ⟨(some 76), .call f_slices_Clone_LValue_Value [(.t 75)], none⟩,
                ⟨(some 22), .move (.t 76), none⟩])
              (.seq
              (.seq
              (.region [
                ⟨(some 77), .move (.t 18), none⟩,
                ⟨(some 78), .len (.t 77), none⟩,
                ⟨(some 79), .move (.c (.int .i64 0)), none⟩])
              (.block 6
                (.loop
                  (.seq
                  (.region [
                    ⟨(some 80), .bin .lss (.t 79) (.t 78), none⟩])
                  (.seq
                  (.cond (.t 80)
                    .skip
                    (.exit 6))
                  (.seq
                  (.block 7
                    (.seq
                    (.region [
                      ⟨(some 81), .indexAddr 1 (.t 77) (.t 79), none⟩,
                      ⟨(some 82), .load false 1 (.t 81), none⟩,
                      ⟨(some 24), .move (.t 82), none⟩])
                    (.region [
                      ⟨(some 83), .move (.t 22), none⟩,
                      ⟨(some 84), .move (.t 24), none⟩,
                      ⟨(some 85), .move (.t 21), none⟩,
                      ⟨(some 86), .indexAddr 3 (.t 84) (.t 85), none⟩,
                      ⟨(some 87), .load true 3 (.t 86), none⟩,
                      ⟨(some 88), .buildSlice 3 1 [(.int .i64 0), (.int .i64 0), (.str (bs []))] [(0, (.t 87))], none⟩,
                      ⟨(some 89), .append 3 32 [(.int .i64 0), (.int .i64 0), (.str (bs []))] (.t 83) (.t 88), none⟩,
                      ⟨(some 22), .move (.t 89), none⟩])))
                  (.region [
                    ⟨(some 90), .bin .add (.t 79) (.c (.int .i64 1)), none⟩,
                    ⟨(some 79), .move (.t 90), none⟩])))))))
              (.region [
                ⟨(some 91), .move (.t 15), none⟩,
                ⟨(some 92), .move (.t 22), none⟩,
                ⟨(some 93), .build [.nil, (.int .i64 0)] [(0, 1, (.t 92)), (1, 1, (.c (.int .i64 1)))], none⟩,
                ⟨(some 94), .buildSliceO 2 1 [.nil, (.int .i64 0)] [(0, (.t 93))], none⟩,
                ⟨(some 95), .append 2 32 [.nil, (.int .i64 0)] (.t 91) (.t 94), none⟩,
                ⟨(some 15), .move (.t 95), none⟩])))))
            (.region [
              ⟨(some 96), .bin .add (.t 70) (.c (.int .i64 1)), none⟩,
              ⟨(some 70), .move (.t 96), none⟩])))))))))))
      (.region [
        ⟨(some 97), .bin .add (.t 45) (.c (.int .i64 1)), none⟩,
        ⟨(some 45), .move (.t 97), none⟩]))))))
  .ghost))
  (.seq
  (.region [
    ⟨(some 98), .move (.t 15), none⟩,
    ⟨(some 99), .call f_bag_Normalize [(.t 98)], none⟩,
    ⟨(some 100), .extract (.t 99) 0, none⟩,
    ⟨(some 101), .extract (.t 99) 1, none⟩,
    ⟨(some 10), .move (.t 100), none⟩,
    ⟨(some 11), .move (.t 101), none⟩])
  .ret)))))))⟩

structure F_window_Apply (P : Program) where
  id : FuncId
  bag_Expand : F_bag_Expand P
  window_check : F_window_check P
  window_partitions : F_window_partitions P
  window_column : F_window_column P
  slices_Clone_LValue_Value : F_slices_Clone_LValue_Value P
  bag_Normalize : F_bag_Normalize P
  has : Has P id [94, 200000] (c_window_Apply bag_Expand.id window_check.id window_partitions.id window_column.id slices_Clone_LValue_Value.id bag_Normalize.id)

def c_warehouselaw18_known (f_window_Apply : FuncId) : AFunc := ⟨76, [.tmp 0],
  (.seq
  (.region [
    ⟨(some 0), .move (.c (.bool false)), none⟩])
  (.seq
  (.region [
    ⟨(some 4), .build [(.int .i64 0), (.int .i64 0), (.str (bs []))] [(0, 1, (.c (.int .i64 2))), (1, 1, (.c (.int .i64 1)))], none⟩,
    ⟨(some 5), .buildSlice 3 1 [(.int .i64 0), (.int .i64 0), (.str (bs []))] [(0, (.t 4))], none⟩,
    ⟨(some 6), .build [.nil, (.int .i64 0)] [(0, 1, (.t 5)), (1, 1, (.c (.int .i64 2)))], none⟩,
    ⟨(some 7), .build [(.int .i64 0), (.int .i64 0), (.str (bs []))] [(0, 1, (.c (.int .i64 2))), (1, 1, (.c (.int .i64 2)))], none⟩,
    ⟨(some 8), .buildSlice 3 1 [(.int .i64 0), (.int .i64 0), (.str (bs []))] [(0, (.t 7))], none⟩,
    ⟨(some 9), .build [.nil, (.int .i64 0)] [(0, 1, (.t 8)), (1, 1, (.c (.int .i64 1)))], none⟩,
    ⟨(some 10), .buildSlice 2 2 [.nil, (.int .i64 0)] [(0, (.t 6)), (1, (.t 9))], none⟩,
    ⟨(some 1), .move (.t 10), none⟩])
  (.seq
  (.region [
    ⟨(some 12), .build [(.str (bs [])), (.int .i64 0), (.str (bs [])), (.int .i64 0), .nil] [(1, 1, (.c (.int .i64 9)))], none⟩,
    ⟨(some 13), .build [(.str (bs [])), (.int .i64 0), (.str (bs [])), (.int .i64 0), .nil] [(1, 1, (.c (.int .i64 8)))], none⟩,
    ⟨(some 14), .buildSlice 5 2 [(.str (bs [])), (.int .i64 0), (.str (bs [])), (.int .i64 0), .nil] [(0, (.t 12)), (1, (.t 13))], none⟩,
    ⟨(some 15), .buildSlice 1 1 [(.int .i64 0)] [(0, (.c (.int .i64 0)))], none⟩,
    ⟨(some 16), .buildSlice 1 2 [(.int .i64 0)] [(0, (.c (.int .i64 (-1)))), (1, (.c (.int .i64 (-1))))], none⟩,
    ⟨(some 17), .move (.t 1), none⟩,
    ⟨(some 18), .call f_window_Apply [(.t 14), (.c .nil), (.t 15), (.t 16), (.t 17)], none⟩,
    ⟨(some 11), .move (.t 18), none⟩,
    ⟨(some 19), .extract (.t 11) 0, none⟩,
    ⟨(some 20), .extract (.t 11) 1, none⟩,
    ⟨(some 2), .move (.t 19), none⟩,
    ⟨(some 3), .move (.t 20), none⟩])
  (.seq
  (.region [
    ⟨(some 21), .move (.t 3), none⟩,
    ⟨(some 22), .bin .eql (.t 21) (.c (.int .i64 0)), none⟩,
    ⟨(some 23), .move (.t 22), none⟩,
    ⟨(some 24), .move (.t 2), some (some 23, true)⟩,
    ⟨(some 25), .len (.t 24), some (some 23, true)⟩,
    ⟨(some 26), .bin .eql (.t 25) (.c (.int .i64 3)), some (some 23, true)⟩,
    ⟨(some 27), .pick (.t 23) (.t 26) (.c (.bool false)), none⟩,
    ⟨(some 28), .move (.t 27), none⟩,
    ⟨(some 29), .move (.t 2), some (some 28, true)⟩,
    ⟨(some 30), .indexAddr 2 (.t 29) (.c (.int .i64 2)), some (some 28, true)⟩,
    ⟨(some 31), .fieldAddr 0 (.t 30), some (some 28, true)⟩,
    ⟨(some 32), .load false 1 (.t 31), some (some 28, true)⟩,
    ⟨(some 33), .len (.t 32), some (some 28, true)⟩,
    ⟨(some 34), .bin .eql (.t 33) (.c (.int .i64 3)), some (some 28, true)⟩,
    ⟨(some 35), .pick (.t 28) (.t 34) (.c (.bool false)), none⟩,
    ⟨(some 36), .move (.t 35), none⟩,
    ⟨(some 37), .move (.t 2), some (some 36, true)⟩,
    ⟨(some 38), .indexAddr 2 (.t 37) (.c (.int .i64 0)), some (some 36, true)⟩,
    ⟨(some 39), .fieldAddr 0 (.t 38), some (some 36, true)⟩,
    ⟨(some 40), .load false 1 (.t 39), some (some 36, true)⟩,
    ⟨(some 41), .indexAddr 3 (.t 40) (.c (.int .i64 1)), some (some 36, true)⟩,
    ⟨(some 42), .fieldAddr 1 (.t 41), some (some 36, true)⟩,
    ⟨(some 43), .load false 1 (.t 42), some (some 36, true)⟩,
    ⟨(some 44), .bin .eql (.t 43) (.c (.int .i64 1)), some (some 36, true)⟩,
    ⟨(some 45), .pick (.t 36) (.t 44) (.c (.bool false)), none⟩,
    ⟨(some 46), .move (.t 45), none⟩,
    ⟨(some 47), .move (.t 2), some (some 46, true)⟩,
    ⟨(some 48), .indexAddr 2 (.t 47) (.c (.int .i64 1)), some (some 46, true)⟩,
    ⟨(some 49), .fieldAddr 0 (.t 48), some (some 46, true)⟩,
    ⟨(some 50), .load false 1 (.t 49), some (some 46, true)⟩,
    ⟨(some 51), .indexAddr 3 (.t 50) (.c (.int .i64 1)), some (some 46, true)⟩,
    ⟨(some 52), .fieldAddr 1 (.t 51), some (some 46, true)⟩,
    ⟨(some 53), .load false 1 (.t 52), some (some 46, true)⟩,
    ⟨(some 54), .bin .eql (.t 53) (.c (.int .i64 1)), some (some 46, true)⟩,
    ⟨(some 55), .pick (.t 46) (.t 54) (.c (.bool false)), none⟩,
    ⟨(some 56), .move (.t 55), none⟩,
    ⟨(some 57), .move (.t 2), some (some 56, true)⟩,
    ⟨(some 58), .indexAddr 2 (.t 57) (.c (.int .i64 1)), some (some 56, true)⟩,
    ⟨(some 59), .fieldAddr 0 (.t 58), some (some 56, true)⟩,
    ⟨(some 60), .load false 1 (.t 59), some (some 56, true)⟩,
    ⟨(some 61), .indexAddr 3 (.t 60) (.c (.int .i64 2)), some (some 56, true)⟩,
    ⟨(some 62), .fieldAddr 1 (.t 61), some (some 56, true)⟩,
    ⟨(some 63), .load false 1 (.t 62), some (some 56, true)⟩,
    ⟨(some 64), .bin .eql (.t 63) (.c (.int .i64 2)), some (some 56, true)⟩,
    ⟨(some 65), .pick (.t 56) (.t 64) (.c (.bool false)), none⟩,
    ⟨(some 66), .move (.t 65), none⟩,
    ⟨(some 67), .move (.t 2), some (some 66, true)⟩,
    ⟨(some 68), .indexAddr 2 (.t 67) (.c (.int .i64 2)), some (some 66, true)⟩,
    ⟨(some 69), .fieldAddr 0 (.t 68), some (some 66, true)⟩,
    ⟨(some 70), .load false 1 (.t 69), some (some 66, true)⟩,
    ⟨(some 71), .indexAddr 3 (.t 70) (.c (.int .i64 1)), some (some 66, true)⟩,
    ⟨(some 72), .fieldAddr 1 (.t 71), some (some 66, true)⟩,
    ⟨(some 73), .load false 1 (.t 72), some (some 66, true)⟩,
    ⟨(some 74), .bin .eql (.t 73) (.c (.int .i64 3)), some (some 66, true)⟩,
    ⟨(some 75), .pick (.t 66) (.t 74) (.c (.bool false)), none⟩,
    ⟨(some 0), .move (.t 75), none⟩])
  .ret))))⟩

structure F_warehouselaw18_known (P : Program) where
  id : FuncId
  window_Apply : F_window_Apply P
  has : Has P id [] (c_warehouselaw18_known window_Apply.id)

def c_warehouseref17_windowed : AFunc := ⟨17, [.tmp 2],
  (.seq
  (.region [
    ⟨(some 2), .move (.c (.bool false)), none⟩])
  (.seq
  (.region [
    ⟨(some 3), .move (.t 0), none⟩,
    ⟨(some 4), .bin .eql (.t 3) (.c (.int .i64 1)), none⟩,
    ⟨(some 5), .move (.t 4), none⟩,
    ⟨(some 6), .move (.t 0), some (some 5, false)⟩,
    ⟨(some 7), .bin .eql (.t 6) (.c (.int .i64 3)), some (some 5, false)⟩,
    ⟨(some 8), .pick (.t 5) (.c (.bool true)) (.t 7), none⟩,
    ⟨(some 9), .move (.t 8), none⟩,
    ⟨(some 10), .move (.t 0), some (some 9, false)⟩,
    ⟨(some 11), .bin .geq (.t 10) (.c (.int .i64 8)), some (some 9, false)⟩,
    ⟨(some 12), .move (.t 11), some (some 9, false)⟩,
    ⟨(some 13), .move (.t 0), some (some 12, true)⟩,
    ⟨(some 14), .bin .leq (.t 13) (.c (.int .i64 13)), some (some 12, true)⟩,
    ⟨(some 15), .pick (.t 12) (.t 14) (.c (.bool false)), some (some 9, false)⟩,
    ⟨(some 16), .pick (.t 9) (.c (.bool true)) (.t 15), none⟩,
    ⟨(some 2), .move (.t 16), none⟩])
  .ret))⟩

structure F_warehouseref17_windowed (P : Program) where
  id : FuncId
  has : Has P id [] c_warehouseref17_windowed

def c_warehouseref17_argument (f_warehouseref5_Pick : FuncId) : AFunc := ⟨11, [.cell true 3 4],
  (.seq
  (.region [
    ⟨(some 4), .alloc [(.int .i64 0), (.int .i64 0), (.str (bs []))], none⟩])
  (.seq
  (.region [
    ⟨(some 5), .move (.t 0), none⟩,
    ⟨(some 6), .move (.t 1), none⟩,
    ⟨(some 7), .buildSlice 1 1 [(.int .i64 0)] [(0, (.t 6))], none⟩,
    ⟨(some 8), .call f_warehouseref5_Pick [(.t 5), (.t 7)], none⟩,
    ⟨(some 9), .indexAddr 3 (.t 8) (.c (.int .i64 0)), none⟩,
    ⟨(some 10), .load true 3 (.t 9), none⟩,
    ⟨none, .store 3 (.t 4) (.t 10), none⟩])
  .ret))⟩

structure F_warehouseref17_argument (P : Program) where
  id : FuncId
  warehouseref5_Pick : F_warehouseref5_Pick P
  has : Has P id [] (c_warehouseref17_argument warehouseref5_Pick.id)

def c_warehouseref17_item (f_warehouseref17_windowed : FuncId) (f_warehouseref17_argument : FuncId) : AFunc := ⟨56, [.tmp 6],
  (.seq
  (.region [
    ⟨(some 3), .box (.t 0), none⟩,
    ⟨(some 6), .move (.c (.int .i64 0)), none⟩])
  (.seq
  (.seq
  (.region [
    ⟨(some 9), .fieldAddr 1 (.t 3), none⟩,
    ⟨(some 10), .load false 1 (.t 9), none⟩,
    ⟨(some 11), .call f_warehouseref17_windowed [(.t 10)], none⟩,
    ⟨(some 12), .un .not (.t 11), none⟩])
  (.cond (.t 12)
    (.seq
    (.region [
      ⟨(some 6), .move (.c (.int .i64 8)), none⟩])
    .ret)
    .skip))
  (.seq
  (.seq
  (.region [
    ⟨(some 13), .fieldAddr 1 (.t 3), none⟩,
    ⟨(some 14), .load false 1 (.t 13), none⟩,
    ⟨(some 15), .bin .eql (.t 14) (.c (.int .i64 10)), none⟩,
    ⟨(some 16), .move (.t 15), none⟩,
    ⟨(some 17), .fieldAddr 1 (.t 3), some (some 16, false)⟩,
    ⟨(some 18), .load false 1 (.t 17), some (some 16, false)⟩,
    ⟨(some 19), .bin .eql (.t 18) (.c (.int .i64 11)), some (some 16, false)⟩,
    ⟨(some 20), .pick (.t 16) (.c (.bool true)) (.t 19), none⟩,
    ⟨(some 21), .move (.t 20), none⟩,
    ⟨(some 22), .fieldAddr 3 (.t 3), some (some 21, true)⟩,
    ⟨(some 23), .load false 1 (.t 22), some (some 21, true)⟩,
    ⟨(some 24), .bin .lss (.t 23) (.c (.int .i64 1)), some (some 21, true)⟩,
    ⟨(some 25), .move (.t 24), some (some 21, true)⟩,
    ⟨(some 26), .fieldAddr 3 (.t 3), some (some 25, false)⟩,
    ⟨(some 27), .load false 1 (.t 26), some (some 25, false)⟩,
    ⟨(some 28), .bin .gtr (.t 27) (.c (.int .i64 4096)), some (some 25, false)⟩,
    ⟨(some 29), .pick (.t 25) (.c (.bool true)) (.t 28), some (some 21, true)⟩,
    ⟨(some 30), .pick (.t 21) (.t 29) (.c (.bool false)), none⟩])
  (.cond (.t 30)
    (.seq
    (.region [
      ⟨(some 6), .move (.c (.int .i64 1)), none⟩])
    .ret)
    .skip))
  (.seq
  (.seq
  (.region [
    ⟨(some 7), .move (.c (.int .i64 0)), none⟩])
  (.block 0
    (.loop
      (.seq
      (.seq
      (.region [
        ⟨(some 31), .move (.t 7), none⟩,
        ⟨(some 32), .move (.t 2), none⟩,
        ⟨(some 33), .len (.t 32), none⟩,
        ⟨(some 34), .bin .lss (.t 31) (.t 33), none⟩,
        ⟨(some 35), .move (.t 34), none⟩,
        ⟨(some 36), .fieldAddr 1 (.t 3), some (some 35, true)⟩,
        ⟨(some 37), .load false 1 (.t 36), some (some 35, true)⟩,
        ⟨(some 38), .bin .eql (.t 37) (.c (.int .i64 3)), some (some 35, true)⟩,
        ⟨(some 39), .pick (.t 35) (.t 38) (.c (.bool false)), none⟩])
      (.cond (.t 39)
        .skip
        (.exit 0)))
      (.seq
      (.block 1
        (.seq
        (.region [
          ⟨(some 42), .move (.t 2), none⟩,
          ⟨(some 43), .move (.t 7), none⟩,
          ⟨(some 44), .indexAddr 1 (.t 42) (.t 43), none⟩,
          ⟨(some 45), .load false 1 (.t 44), none⟩,
          ⟨(some 46), .move (.t 1), none⟩,
          ⟨(some 47), .call f_warehouseref17_argument [(.t 45), (.t 46)], none⟩,
          ⟨(some 8), .alloc [(.int .i64 0), (.int .i64 0), (.str (bs []))], none⟩,
          ⟨none, .store 3 (.t 8) (.t 47), none⟩])
        (.seq
        (.region [
          ⟨(some 48), .fieldAddr 0 (.t 8), none⟩,
          ⟨(some 49), .load false 1 (.t 48), none⟩,
          ⟨(some 50), .bin .neq (.t 49) (.c (.int .i64 0)), none⟩,
          ⟨(some 51), .move (.t 50), none⟩,
          ⟨(some 52), .fieldAddr 0 (.t 8), some (some 51, true)⟩,
          ⟨(some 53), .load false 1 (.t 52), some (some 51, true)⟩,
          ⟨(some 54), .bin .neq (.t 53) (.c (.int .i64 2)), some (some 51, true)⟩,
          ⟨(some 55), .pick (.t 51) (.t 54) (.c (.bool false)), none⟩])
        (.cond (.t 55)
          (.seq
          (.region [
            ⟨(some 6), .move (.c (.int .i64 7)), none⟩])
          .ret)
          .skip))))
      (.region [
        ⟨(some 40), .move (.t 7), none⟩,
        ⟨(some 41), .bin .add (.t 40) (.c (.int .i64 1)), none⟩,
        ⟨(some 7), .move (.t 41), none⟩]))))))
  (.seq
  (.region [
    ⟨(some 6), .move (.c (.int .i64 0)), none⟩])
  .ret)))))⟩

structure F_warehouseref17_item (P : Program) where
  id : FuncId
  warehouseref17_windowed : F_warehouseref17_windowed P
  warehouseref17_argument : F_warehouseref17_argument P
  has : Has P id [] (c_warehouseref17_item warehouseref17_windowed.id warehouseref17_argument.id)

def c_warehouseref17_compare (f_warehouseref5_Pick : FuncId) (f_warehouseref1_CompareRows : FuncId) : AFunc := ⟨14, [.tmp 6],
  (.seq
  (.region [
    ⟨(some 6), .move (.c (.int .i64 0)), none⟩])
  (.seq
  (.region [
    ⟨(some 7), .move (.t 0), none⟩,
    ⟨(some 8), .move (.t 2), none⟩,
    ⟨(some 9), .call f_warehouseref5_Pick [(.t 7), (.t 8)], none⟩,
    ⟨(some 10), .move (.t 1), none⟩,
    ⟨(some 11), .move (.t 2), none⟩,
    ⟨(some 12), .call f_warehouseref5_Pick [(.t 10), (.t 11)], none⟩,
    ⟨(some 13), .call f_warehouseref1_CompareRows [(.t 9), (.t 12)], none⟩,
    ⟨(some 6), .move (.t 13), none⟩])
  .ret))⟩

structure F_warehouseref17_compare (P : Program) where
  id : FuncId
  warehouseref5_Pick : F_warehouseref5_Pick P
  warehouseref1_CompareRows : F_warehouseref1_CompareRows P
  has : Has P id [] (c_warehouseref17_compare warehouseref5_Pick.id warehouseref1_CompareRows.id)

def c_warehouseref17_members (f_warehouseref17_compare : FuncId) : AFunc := ⟨63, [.tmp 8],
  (.seq
  (.region [
    ⟨(some 8), .move (.c .nil), none⟩])
  (.seq
  (.region [
    ⟨(some 9), .move (.c .nil), none⟩])
  (.seq
  (.seq
  (.region [
    ⟨(some 10), .move (.c (.int .i64 0)), none⟩])
  (.block 0
    (.loop
      (.seq
      (.seq
      (.region [
        ⟨(some 13), .move (.t 10), none⟩,
        ⟨(some 14), .move (.t 0), none⟩,
        ⟨(some 15), .len (.t 14), none⟩,
        ⟨(some 16), .bin .lss (.t 13) (.t 15), none⟩])
      (.cond (.t 16)
        .skip
        (.exit 0)))
      (.seq
      (.block 1
        (.seq
        (.seq
        (.region [
          ⟨(some 19), .move (.t 0), none⟩,
          ⟨(some 20), .move (.t 10), none⟩,
          ⟨(some 21), .indexAddr 1 (.t 19) (.t 20), none⟩,
          ⟨(some 22), .load false 1 (.t 21), none⟩,
          ⟨(some 23), .move (.t 1), none⟩,
          ⟨(some 24), .move (.t 2), none⟩,
          ⟨(some 25), .call f_warehouseref17_compare [(.t 22), (.t 23), (.t 24)], none⟩,
          ⟨(some 26), .bin .neq (.t 25) (.c (.int .i64 0)), none⟩])
        (.cond (.t 26)
          (.exit 1)
          .skip))
        (.seq
        (.region [
          ⟨(some 27), .move (.t 9), none⟩,
          ⟨(some 28), .len (.t 27), none⟩,
          ⟨(some 11), .move (.t 28), none⟩])
        (.seq
        (.block 2
          (.loop
            (.seq
            (.seq
            (.draw [
              (⟨(some 29), .move (.t 11), none⟩, []),
              (⟨(some 30), .bin .gtr (.t 29) (.c (.int .i64 0)), none⟩, []),
              (⟨(some 31), .move (.t 30), none⟩, []),
              (⟨(some 32), .move (.t 9), some (some 31, true)⟩, []),
              (⟨(some 33), .move (.t 11), some (some 31, true)⟩, []),
              (⟨(some 34), .bin .sub (.t 33) (.c (.int .i64 1)), some (some 31, true)⟩, []),
              (⟨(some 35), .indexAddr 1 (.t 32) (.t 34), some (some 31, true)⟩, []),
              (⟨(some 36), .load false 1 (.t 35), some (some 31, true)⟩, []),
              (⟨(some 37), .move (.t 0), some (some 31, true)⟩, []),
              (⟨(some 38), .move (.t 10), some (some 31, true)⟩, []),
              (⟨(some 39), .indexAddr 1 (.t 37) (.t 38), some (some 31, true)⟩, []),
              (⟨(some 40), .load false 1 (.t 39), some (some 31, true)⟩, []),
              (⟨(some 41), .move (.t 3), some (some 31, true)⟩, []),
              (⟨(some 42), .call f_warehouseref17_compare [(.t 36), (.t 40), (.t 41)], some (some 31, true)⟩, []),
              (⟨(some 43), .bin .gtr (.t 42) (.c (.int .i64 0)), some (some 31, true)⟩, []),
              (⟨(some 44), .pick (.t 31) (.t 43) (.c (.bool false)), none⟩, [])])
            (.cond (.t 44)
              .skip
              (.exit 2)))
            (.block 3
              (.region [
                ⟨(some 45), .move (.t 11), none⟩,
                ⟨(some 46), .bin .sub (.t 45) (.c (.int .i64 1)), none⟩,
                ⟨(some 11), .move (.t 46), none⟩])))))
        (.seq
        (.draw [
          (⟨(some 47), .move (.t 9), none⟩, []),
          (⟨(some 48), .move (.t 11), none⟩, []),
          (⟨(some 49), .slice 1 (.t 47) none (some (.t 48)), none⟩, []),
          (⟨(some 50), .append 1 24 [.nil] (.c .nil) (.t 49), none⟩, []),
          (⟨(some 51), .move (.t 0), none⟩, []),
          (⟨(some 52), .move (.t 10), none⟩, []),
          (⟨(some 53), .indexAddr 1 (.t 51) (.t 52), none⟩, [11]),
          (⟨(some 54), .load false 1 (.t 53), none⟩, [11]),
          (⟨(some 55), .buildSlice 1 1 [.nil] [(0, (.t 54))], none⟩, []),
          (⟨(some 56), .append 1 24 [.nil] (.t 50) (.t 55), none⟩, []),
          (⟨(some 12), .move (.t 56), none⟩, [])])
        (.region [
          ⟨(some 57), .move (.t 12), none⟩,
          ⟨(some 58), .move (.t 9), none⟩,
          ⟨(some 59), .move (.t 11), none⟩,
          ⟨(some 60), .slice 1 (.t 58) (some (.t 59)) none, none⟩,
          ⟨(some 61), .append 1 24 [.nil] (.t 57) (.t 60), none⟩,
          ⟨(some 9), .move (.t 61), none⟩]))))))
      (.region [
        ⟨(some 17), .move (.t 10), none⟩,
        ⟨(some 18), .bin .add (.t 17) (.c (.int .i64 1)), none⟩,
        ⟨(some 10), .move (.t 18), none⟩]))))))
  (.seq
  (.region [
    ⟨(some 62), .move (.t 9), none⟩,
    ⟨(some 8), .move (.t 62), none⟩])
  .ret))))⟩

structure F_warehouseref17_members (P : Program) where
  id : FuncId
  warehouseref17_compare : F_warehouseref17_compare P
  has : Has P id [] (c_warehouseref17_members warehouseref17_compare.id)

def c_warehouseref17_place (f_warehouseref1_SameRow : FuncId) : AFunc := ⟨23, [.tmp 6],
  (.seq
  (.region [
    ⟨(some 6), .move (.c (.int .i64 0)), none⟩])
  (.seq
  (.seq
  (.region [
    ⟨(some 7), .move (.c (.int .i64 0)), none⟩])
  (.block 0
    (.loop
      (.seq
      (.seq
      (.region [
        ⟨(some 8), .move (.t 7), none⟩,
        ⟨(some 9), .move (.t 0), none⟩,
        ⟨(some 10), .len (.t 9), none⟩,
        ⟨(some 11), .bin .lss (.t 8) (.t 10), none⟩])
      (.cond (.t 11)
        .skip
        (.exit 0)))
      (.seq
      (.block 1
        (.seq
        (.region [
          ⟨(some 14), .move (.t 0), none⟩,
          ⟨(some 15), .move (.t 7), none⟩,
          ⟨(some 16), .indexAddr 1 (.t 14) (.t 15), none⟩,
          ⟨(some 17), .load false 1 (.t 16), none⟩,
          ⟨(some 18), .move (.t 1), none⟩,
          ⟨(some 19), .call f_warehouseref1_SameRow [(.t 17), (.t 18)], none⟩])
        (.cond (.t 19)
          (.seq
          (.region [
            ⟨(some 20), .move (.t 7), none⟩,
            ⟨(some 21), .move (.t 2), none⟩,
            ⟨(some 22), .bin .add (.t 20) (.t 21), none⟩,
            ⟨(some 6), .move (.t 22), none⟩])
          .ret)
          .skip)))
      (.region [
        ⟨(some 12), .move (.t 7), none⟩,
        ⟨(some 13), .bin .add (.t 12) (.c (.int .i64 1)), none⟩,
        ⟨(some 7), .move (.t 13), none⟩]))))))
  (.seq
  (.region [
    ⟨(some 6), .move (.c (.int .i64 (-1))), none⟩])
  .ret)))⟩

structure F_warehouseref17_place (P : Program) where
  id : FuncId
  warehouseref1_SameRow : F_warehouseref1_SameRow P
  has : Has P id [] (c_warehouseref17_place warehouseref1_SameRow.id)

def c_warehouseref17_running (f_warehouseref17_argument : FuncId) (f_warehouseref17_number : FuncId) : AFunc := ⟨34, [.cell true 3 6],
  (.seq
  (.region [
    ⟨(some 6), .alloc [(.int .i64 0), (.int .i64 0), (.str (bs []))], none⟩])
  (.seq
  (.region [
    ⟨(some 7), .move (.c (.int .i64 0)), none⟩,
    ⟨(some 8), .move (.c (.bool false)), none⟩])
  (.seq
  (.seq
  (.region [
    ⟨(some 9), .move (.c (.int .i64 0)), none⟩])
  (.block 0
    (.loop
      (.seq
      (.seq
      (.region [
        ⟨(some 11), .move (.t 9), none⟩,
        ⟨(some 12), .move (.t 1), none⟩,
        ⟨(some 13), .bin .leq (.t 11) (.t 12), none⟩])
      (.cond (.t 13)
        .skip
        (.exit 0)))
      (.seq
      (.block 1
        (.seq
        (.region [
          ⟨(some 16), .move (.t 0), none⟩,
          ⟨(some 17), .move (.t 9), none⟩,
          ⟨(some 18), .indexAddr 1 (.t 16) (.t 17), none⟩,
          ⟨(some 19), .load false 1 (.t 18), none⟩,
          ⟨(some 20), .move (.t 2), none⟩,
          ⟨(some 21), .call f_warehouseref17_argument [(.t 19), (.t 20)], none⟩,
          ⟨(some 10), .alloc [(.int .i64 0), (.int .i64 0), (.str (bs []))], none⟩,
          ⟨none, .store 3 (.t 10) (.t 21), none⟩])
        (.seq
        (.region [
          ⟨(some 22), .fieldAddr 0 (.t 10), none⟩,
          ⟨(some 23), .load false 1 (.t 22), none⟩,
          ⟨(some 24), .bin .neq (.t 23) (.c (.int .i64 0)), none⟩])
        (.cond (.t 24)
          (.region [
            ⟨(some 25), .move (.t 7), none⟩,
            ⟨(some 26), .fieldAddr 1 (.t 10), none⟩,
            ⟨(some 27), .load false 1 (.t 26), none⟩,
            ⟨(some 28), .bin .add (.t 25) (.t 27), none⟩,
            ⟨(some 7), .move (.t 28), none⟩,
            ⟨(some 8), .move (.c (.bool true)), none⟩])
          .skip))))
      (.region [
        ⟨(some 14), .move (.t 9), none⟩,
        ⟨(some 15), .bin .add (.t 14) (.c (.int .i64 1)), none⟩,
        ⟨(some 9), .move (.t 15), none⟩]))))))
  (.seq
  (.seq
  (.region [
    ⟨(some 29), .move (.t 8), none⟩,
    ⟨(some 30), .un .not (.t 29), none⟩])
  (.cond (.t 30)
    (.seq
    (.region [
      ⟨(some 31), .build [(.int .i64 0), (.int .i64 0), (.str (bs []))] [], none⟩,
      ⟨none, .store 3 (.t 6) (.t 31), none⟩])
    .ret)
    .skip))
  (.seq
  (.region [
    ⟨(some 32), .move (.t 7), none⟩,
    ⟨(some 33), .call f_warehouseref17_number [(.t 32)], none⟩,
    ⟨none, .store 3 (.t 6) (.t 33), none⟩])
  .ret)))))⟩

structure F_warehouseref17_running (P : Program) where
  id : FuncId
  warehouseref17_argument : F_warehouseref17_argument P
  warehouseref17_number : F_warehouseref17_number P
  has : Has P id [] (c_warehouseref17_running warehouseref17_argument.id warehouseref17_number.id)

def c_warehouseref17_at (f_warehouseref17_argument : FuncId) : AFunc := ⟨22, [.cell true 3 6],
  (.seq
  (.region [
    ⟨(some 6), .alloc [(.int .i64 0), (.int .i64 0), (.str (bs []))], none⟩])
  (.seq
  (.seq
  (.region [
    ⟨(some 7), .move (.t 1), none⟩,
    ⟨(some 8), .bin .lss (.t 7) (.c (.int .i64 0)), none⟩,
    ⟨(some 9), .move (.t 8), none⟩,
    ⟨(some 10), .move (.t 1), some (some 9, false)⟩,
    ⟨(some 11), .move (.t 0), some (some 9, false)⟩,
    ⟨(some 12), .len (.t 11), some (some 9, false)⟩,
    ⟨(some 13), .bin .geq (.t 10) (.t 12), some (some 9, false)⟩,
    ⟨(some 14), .pick (.t 9) (.c (.bool true)) (.t 13), none⟩])
  (.cond (.t 14)
    (.seq
    (.region [
      ⟨(some 15), .build [(.int .i64 0), (.int .i64 0), (.str (bs []))] [], none⟩,
      ⟨none, .store 3 (.t 6) (.t 15), none⟩])
    .ret)
    .skip))
  (.seq
  (.region [
    ⟨(some 16), .move (.t 0), none⟩,
    ⟨(some 17), .move (.t 1), none⟩,
    ⟨(some 18), .indexAddr 1 (.t 16) (.t 17), none⟩,
    ⟨(some 19), .load false 1 (.t 18), none⟩,
    ⟨(some 20), .move (.t 2), none⟩,
    ⟨(some 21), .call f_warehouseref17_argument [(.t 19), (.t 20)], none⟩,
    ⟨none, .store 3 (.t 6) (.t 21), none⟩])
  .ret)))⟩

structure F_warehouseref17_at (P : Program) where
  id : FuncId
  warehouseref17_argument : F_warehouseref17_argument P
  has : Has P id [] (c_warehouseref17_at warehouseref17_argument.id)

def c_warehouseref17_value (f_warehouseref17_number : FuncId) (f_warehouseref17_compare : FuncId) (f_warehouseref17_running : FuncId) (f_warehouseref17_at : FuncId) : AFunc := ⟨83, [.cell true 3 10],
  (.seq
  (.region [
    ⟨(some 5), .box (.t 0), none⟩,
    ⟨(some 10), .alloc [(.int .i64 0), (.int .i64 0), (.str (bs []))], none⟩])
  (.seq
  (.seq
  (.region [
    ⟨(some 13), .fieldAddr 1 (.t 5), none⟩,
    ⟨(some 14), .load false 1 (.t 13), none⟩])
  (.block 0
    (.seq
    (.region [
      ⟨(some 16), .bin .eql (.t 14) (.c (.int .i64 1)), none⟩,
      ⟨(some 15), .move (.t 16), none⟩])
    (.cond (.t 15)
      (.seq
      (.region [
        ⟨(some 17), .move (.t 2), none⟩,
        ⟨(some 18), .len (.t 17), none⟩,
        ⟨(some 19), .call f_warehouseref17_number [(.t 18)], none⟩,
        ⟨none, .store 3 (.t 10) (.t 19), none⟩])
      .ret)
      (.seq
      (.region [
        ⟨(some 21), .bin .eql (.t 14) (.c (.int .i64 8)), none⟩,
        ⟨(some 20), .move (.t 21), none⟩])
      (.cond (.t 20)
        (.seq
        (.region [
          ⟨(some 22), .move (.t 3), none⟩,
          ⟨(some 23), .bin .add (.t 22) (.c (.int .i64 1)), none⟩,
          ⟨(some 24), .call f_warehouseref17_number [(.t 23)], none⟩,
          ⟨none, .store 3 (.t 10) (.t 24), none⟩])
        .ret)
        (.seq
        (.region [
          ⟨(some 26), .bin .eql (.t 14) (.c (.int .i64 9)), none⟩,
          ⟨(some 25), .move (.t 26), none⟩])
        (.cond (.t 25)
          (.seq
          (.region [
            ⟨(some 11), .move (.c (.int .i64 1)), none⟩])
          (.seq
          (.seq
          (.region [
            ⟨(some 12), .move (.c (.int .i64 0)), none⟩])
          (.block 1
            (.loop
              (.seq
              (.seq
              (.region [
                ⟨(some 27), .move (.t 12), none⟩,
                ⟨(some 28), .move (.t 2), none⟩,
                ⟨(some 29), .len (.t 28), none⟩,
                ⟨(some 30), .bin .lss (.t 27) (.t 29), none⟩])
              (.cond (.t 30)
                .skip
                (.exit 1)))
              (.seq
              (.block 2
                (.seq
                (.draw [
                  (⟨(some 33), .move (.t 2), none⟩, []),
                  (⟨(some 34), .move (.t 12), none⟩, []),
                  (⟨(some 35), .indexAddr 1 (.t 33) (.t 34), none⟩, []),
                  (⟨(some 36), .load false 1 (.t 35), none⟩, []),
                  (⟨(some 37), .move (.t 2), none⟩, []),
                  (⟨(some 38), .move (.t 3), none⟩, []),
                  (⟨(some 39), .indexAddr 1 (.t 37) (.t 38), none⟩, []),
                  (⟨(some 40), .load false 1 (.t 39), none⟩, []),
                  (⟨(some 41), .move (.t 4), none⟩, []),
                  (⟨(some 42), .call f_warehouseref17_compare [(.t 36), (.t 40), (.t 41)], none⟩, []),
                  (⟨(some 43), .bin .lss (.t 42) (.c (.int .i64 0)), none⟩, [])])
                (.cond (.t 43)
                  (.region [
                    ⟨(some 44), .move (.t 11), none⟩,
                    ⟨(some 45), .bin .add (.t 44) (.c (.int .i64 1)), none⟩,
                    ⟨(some 11), .move (.t 45), none⟩])
                  .skip)))
              (.region [
                ⟨(some 31), .move (.t 12), none⟩,
                ⟨(some 32), .bin .add (.t 31) (.c (.int .i64 1)), none⟩,
                ⟨(some 12), .move (.t 32), none⟩]))))))
          (.seq
          (.region [
            ⟨(some 46), .move (.t 11), none⟩,
            ⟨(some 47), .call f_warehouseref17_number [(.t 46)], none⟩,
            ⟨none, .store 3 (.t 10) (.t 47), none⟩])
          .ret)))
          (.seq
          (.region [
            ⟨(some 49), .bin .eql (.t 14) (.c (.int .i64 3)), none⟩,
            ⟨(some 48), .move (.t 49), none⟩])
          (.cond (.t 48)
            (.seq
            (.region [
              ⟨(some 50), .move (.t 2), none⟩,
              ⟨(some 51), .move (.t 3), none⟩,
              ⟨(some 52), .move (.t 1), none⟩,
              ⟨(some 53), .call f_warehouseref17_running [(.t 50), (.t 51), (.t 52)], none⟩,
              ⟨none, .store 3 (.t 10) (.t 53), none⟩])
            .ret)
            (.seq
            (.region [
              ⟨(some 55), .bin .eql (.t 14) (.c (.int .i64 10)), none⟩,
              ⟨(some 54), .move (.t 55), none⟩])
            (.cond (.t 54)
              (.seq
              (.region [
                ⟨(some 56), .move (.t 2), none⟩,
                ⟨(some 57), .move (.t 3), none⟩,
                ⟨(some 58), .fieldAddr 3 (.t 5), none⟩,
                ⟨(some 59), .load false 1 (.t 58), none⟩,
                ⟨(some 60), .bin .sub (.t 57) (.t 59), none⟩,
                ⟨(some 61), .move (.t 1), none⟩,
                ⟨(some 62), .call f_warehouseref17_at [(.t 56), (.t 60), (.t 61)], none⟩,
                ⟨none, .store 3 (.t 10) (.t 62), none⟩])
              .ret)
              (.seq
              (.region [
                ⟨(some 64), .bin .eql (.t 14) (.c (.int .i64 11)), none⟩,
                ⟨(some 63), .move (.t 64), none⟩])
              (.cond (.t 63)
                (.seq
                (.region [
                  ⟨(some 65), .move (.t 2), none⟩,
                  ⟨(some 66), .move (.t 3), none⟩,
                  ⟨(some 67), .fieldAddr 3 (.t 5), none⟩,
                  ⟨(some 68), .load false 1 (.t 67), none⟩,
                  ⟨(some 69), .bin .add (.t 66) (.t 68), none⟩,
                  ⟨(some 70), .move (.t 1), none⟩,
                  ⟨(some 71), .call f_warehouseref17_at [(.t 65), (.t 69), (.t 70)], none⟩,
                  ⟨none, .store 3 (.t 10) (.t 71), none⟩])
                .ret)
                (.seq
                (.region [
                  ⟨(some 73), .bin .eql (.t 14) (.c (.int .i64 12)), none⟩,
                  ⟨(some 72), .move (.t 73), none⟩])
                (.cond (.t 72)
                  (.seq
                  (.region [
                    ⟨(some 74), .move (.t 2), none⟩,
                    ⟨(some 75), .move (.t 1), none⟩,
                    ⟨(some 76), .call f_warehouseref17_at [(.t 74), (.c (.int .i64 0)), (.t 75)], none⟩,
                    ⟨none, .store 3 (.t 10) (.t 76), none⟩])
                  .ret)
                  .skip))))))))))))))))
  (.seq
  (.region [
    ⟨(some 77), .move (.t 2), none⟩,
    ⟨(some 78), .move (.t 2), none⟩,
    ⟨(some 79), .len (.t 78), none⟩,
    ⟨(some 80), .bin .sub (.t 79) (.c (.int .i64 1)), none⟩,
    ⟨(some 81), .move (.t 1), none⟩,
    ⟨(some 82), .call f_warehouseref17_at [(.t 77), (.t 80), (.t 81)], none⟩,
    ⟨none, .store 3 (.t 10) (.t 82), none⟩])
  .ret)))⟩

structure F_warehouseref17_value (P : Program) where
  id : FuncId
  warehouseref17_number : F_warehouseref17_number P
  warehouseref17_compare : F_warehouseref17_compare P
  warehouseref17_running : F_warehouseref17_running P
  warehouseref17_at : F_warehouseref17_at P
  has : Has P id [] (c_warehouseref17_value warehouseref17_number.id warehouseref17_compare.id warehouseref17_running.id warehouseref17_at.id)

def c_warehouseref17_Apply (f_warehouseref6_Expand : FuncId) (f_warehouseref17_item : FuncId) (f_warehouseref17_members : FuncId) (f_warehouseref17_place : FuncId) (f_warehouseref17_value : FuncId) (f_warehouseref6_Sum : FuncId) : AFunc := ⟨126, [.tmp 10, .tmp 11],
  (.seq
  (.region [
    ⟨(some 10), .move (.c .nil), none⟩,
    ⟨(some 11), .move (.c (.int .i64 0)), none⟩])
  (.seq
  (.region [
    ⟨(some 24), .move (.t 4), none⟩,
    ⟨(some 25), .call f_warehouseref6_Expand [(.t 24)], none⟩,
    ⟨(some 23), .move (.t 25), none⟩,
    ⟨(some 26), .extract (.t 23) 0, none⟩,
    ⟨(some 27), .extract (.t 23) 1, none⟩,
    ⟨(some 12), .move (.t 26), none⟩,
    ⟨(some 13), .move (.t 27), none⟩])
  (.seq
  (.seq
  (.region [
    ⟨(some 28), .move (.t 13), none⟩,
    ⟨(some 29), .bin .neq (.t 28) (.c (.int .i64 0)), none⟩])
  (.cond (.t 29)
    (.seq
    (.region [
      ⟨(some 30), .move (.t 13), none⟩,
      ⟨(some 10), .move (.c .nil), none⟩,
      ⟨(some 11), .move (.t 30), none⟩])
    .ret)
    .skip))
  (.seq
  (.seq
  (.region [
    ⟨(some 31), .move (.t 0), none⟩,
    ⟨(some 32), .len (.t 31), none⟩,
    ⟨(some 33), .move (.t 3), none⟩,
    ⟨(some 34), .len (.t 33), none⟩,
    ⟨(some 35), .bin .neq (.t 32) (.t 34), none⟩])
  (.cond (.t 35)
    (.seq
    (.region [
      ⟨(some 10), .move (.c .nil), none⟩,
      ⟨(some 11), .move (.c (.int .i64 8)), none⟩])
    .ret)
    .skip))
  (.seq
  (.seq
  (.region [
    ⟨(some 14), .move (.c (.int .i64 0)), none⟩])
  (.block 0
    (.loop
      (.seq
      (.seq
      (.region [
        ⟨(some 36), .move (.t 14), none⟩,
        ⟨(some 37), .move (.t 0), none⟩,
        ⟨(some 38), .len (.t 37), none⟩,
        ⟨(some 39), .bin .lss (.t 36) (.t 38), none⟩])
      (.cond (.t 39)
        .skip
        (.exit 0)))
      (.seq
      (.block 1
        (.seq
        (.draw [
          (⟨(some 42), .move (.t 0), none⟩, []),
          (⟨(some 43), .move (.t 14), none⟩, []),
          (⟨(some 44), .indexAddr 5 (.t 42) (.t 43), none⟩, []),
          (⟨(some 45), .load true 5 (.t 44), none⟩, []),
          (⟨(some 46), .move (.t 3), none⟩, []),
          (⟨(some 47), .move (.t 14), none⟩, []),
          (⟨(some 48), .indexAddr 1 (.t 46) (.t 47), none⟩, []),
          (⟨(some 49), .load false 1 (.t 48), none⟩, []),
          (⟨(some 50), .move (.t 12), none⟩, []),
          (⟨(some 51), .call f_warehouseref17_item [(.t 45), (.t 49), (.t 50)], none⟩, []),
          (⟨(some 15), .move (.t 51), none⟩, [])])
        (.seq
        (.region [
          ⟨(some 52), .move (.t 15), none⟩,
          ⟨(some 53), .bin .neq (.t 52) (.c (.int .i64 0)), none⟩])
        (.cond (.t 53)
          (.seq
          (.region [
            ⟨(some 54), .move (.t 15), none⟩,
            ⟨(some 10), .move (.c .nil), none⟩,
            ⟨(some 11), .move (.t 54), none⟩])
          .ret)
          .skip))))
      (.region [
        ⟨(some 40), .move (.t 14), none⟩,
        ⟨(some 41), .bin .add (.t 40) (.c (.int .i64 1)), none⟩,
        ⟨(some 14), .move (.t 41), none⟩]))))))
  (.seq
  (.region [
    ⟨(some 16), .move (.c .nil), none⟩])
  (.seq
  (.seq
  (.region [
    ⟨(some 17), .move (.c (.int .i64 0)), none⟩])
  (.seq
  (.block 2
    (.loop
      (.seq
      (.seq
      (.region [
        ⟨(some 55), .move (.t 17), none⟩,
        ⟨(some 56), .move (.t 4), none⟩,
        ⟨(some 57), .len (.t 56), none⟩,
        ⟨(some 58), .bin .lss (.t 55) (.t 57), none⟩])
      (.cond (.t 58)
        .skip
        (.exit 2)))
      (.seq
      (.block 3
        (.seq
        (.region [
          ⟨(some 61), .move (.t 12), none⟩,
          ⟨(some 62), .move (.t 4), none⟩,
          ⟨(some 63), .move (.t 17), none⟩,
          ⟨(some 64), .indexAddr 2 (.t 62) (.t 63), none⟩,
          ⟨(some 65), .fieldAddr 0 (.t 64), none⟩,
          ⟨(some 66), .load false 1 (.t 65), none⟩,
          ⟨(some 67), .move (.t 1), none⟩,
          ⟨(some 68), .move (.t 2), none⟩,
          ⟨(some 69), .call f_warehouseref17_members [(.t 61), (.t 66), (.t 67), (.t 68)], none⟩,
          ⟨(some 18), .move (.t 69), none⟩])
        (.seq
        (.region [
          ⟨(some 19), .move (.c (.int .i64 0)), none⟩])
        (.block 4
          (.loop
            (.seq
            (.seq
            (.region [
              ⟨(some 70), .move (.t 19), none⟩,
              ⟨(some 71), .move (.t 4), none⟩,
              ⟨(some 72), .move (.t 17), none⟩,
              ⟨(some 73), .indexAddr 2 (.t 71) (.t 72), none⟩,
              ⟨(some 74), .fieldAddr 1 (.t 73), none⟩,
              ⟨(some 75), .load false 1 (.t 74), none⟩,
              ⟨(some 76), .bin .lss (.t 70) (.t 75), none⟩])
            (.cond (.t 76)
              .skip
              (.exit 4)))
            (.seq
            (.block 5
              (.seq
              (.region [
                ⟨(some 79), .move (.t 18), none⟩,
                ⟨(some 80), .move (.t 4), none⟩,
                ⟨(some 81), .move (.t 17), none⟩,
                ⟨(some 82), .indexAddr 2 (.t 80) (.t 81), none⟩,
                ⟨(some 83), .fieldAddr 0 (.t 82), none⟩,
                ⟨(some 84), .load false 1 (.t 83), none⟩,
                ⟨(some 85), .move (.t 19), none⟩,
                ⟨(some 86), .call f_warehouseref17_place [(.t 79), (.t 84), (.t 85)], none⟩,
                ⟨(some 20), .move (.t 86), none⟩])
              (.seq
              (.region [
                ⟨(some 87), .move (.t 4), none⟩,
                ⟨(some 88), .move (.t 17), none⟩,
                ⟨(some 89), .indexAddr 2 (.t 87) (.t 88), none⟩,
                ⟨(some 90), .fieldAddr 0 (.t 89), none⟩,
                ⟨(some 91), .load false 1 (.t 90), none⟩,
                ⟨(some 92), .append 3 32 [(.int .i64 0), (.int .i64 0), (.str (bs []))] (.c .nil) (.t 91), none⟩,
                ⟨(some 21), .move (.t 92), none⟩])
              (.seq
              (.seq
              (.region [
                ⟨(some 22), .move (.c (.int .i64 0)), none⟩])
              (.block 6
                (.loop
                  (.seq
                  (.seq
                  (.region [
                    ⟨(some 93), .move (.t 22), none⟩,
                    ⟨(some 94), .move (.t 0), none⟩,
                    ⟨(some 95), .len (.t 94), none⟩,
                    ⟨(some 96), .bin .lss (.t 93) (.t 95), none⟩])
                  (.cond (.t 96)
                    .skip
                    (.exit 6)))
                  (.seq
                  (.block 7
                    (.draw [
                      (⟨(some 99), .move (.t 21), none⟩, []),
                      (⟨(some 100), .move (.t 0), none⟩, []),
                      (⟨(some 101), .move (.t 22), none⟩, []),
                      (⟨(some 102), .indexAddr 5 (.t 100) (.t 101), none⟩, []),
                      (⟨(some 103), .load true 5 (.t 102), none⟩, []),
                      (⟨(some 104), .move (.t 3), none⟩, []),
                      (⟨(some 105), .move (.t 22), none⟩, []),
                      (⟨(some 106), .indexAddr 1 (.t 104) (.t 105), none⟩, []),
                      (⟨(some 107), .load false 1 (.t 106), none⟩, []),
                      (⟨(some 108), .move (.t 18), none⟩, []),
                      (⟨(some 109), .move (.t 20), none⟩, []),
                      (⟨(some 110), .move (.t 2), none⟩, []),
                      (⟨(some 111), .call f_warehouseref17_value [(.t 103), (.t 107), (.t 108), (.t 109), (.t 110)], none⟩, []),
                      (⟨(some 112), .buildSlice 3 1 [(.int .i64 0), (.int .i64 0), (.str (bs []))] [(0, (.t 111))], none⟩, []),
                      (⟨(some 113), .append 3 32 [(.int .i64 0), (.int .i64 0), (.str (bs []))] (.t 99) (.t 112), none⟩, []),
                      (⟨(some 21), .move (.t 113), none⟩, [])]))
                  (.region [
                    ⟨(some 97), .move (.t 22), none⟩,
                    ⟨(some 98), .bin .add (.t 97) (.c (.int .i64 1)), none⟩,
                    ⟨(some 22), .move (.t 98), none⟩]))))))
              (.seq
              (.seq
              (.region [
                ⟨(some 114), .move (.t 21), none⟩,
                ⟨(some 115), .len (.t 114), none⟩,
                ⟨(some 116), .bin .gtr (.t 115) (.c (.int .i64 12)), none⟩])
              (.cond (.t 116)
                (.seq
                (.region [
                  ⟨(some 10), .move (.c .nil), none⟩,
                  ⟨(some 11), .move (.c (.int .i64 2)), none⟩])
                .ret)
                .skip))
              (.region [
                ⟨(some 117), .move (.t 16), none⟩,
                ⟨(some 118), .move (.t 21), none⟩,
                ⟨(some 119), .build [.nil, (.int .i64 0)] [(0, 1, (.t 118)), (1, 1, (.c (.int .i64 1)))], none⟩,
                ⟨(some 120), .buildSliceO 2 1 [.nil, (.int .i64 0)] [(0, (.t 119))], none⟩,
                ⟨(some 121), .append 2 32 [.nil, (.int .i64 0)] (.t 117) (.t 120), none⟩,
                ⟨(some 16), .move (.t 121), none⟩]))))))
            (.region [
              ⟨(some 77), .move (.t 19), none⟩,
              ⟨(some 78), .bin .add (.t 77) (.c (.int .i64 1)), none⟩,
              ⟨(some 19), .move (.t 78), none⟩]))))))))
      (.region [
        ⟨(some 59), .move (.t 17), none⟩,
        ⟨(some 60), .bin .add (.t 59) (.c (.int .i64 1)), none⟩,
        ⟨(some 17), .move (.t 60), none⟩])))))
  .ghost))
  (.seq
  (.region [
    ⟨(some 122), .move (.t 16), none⟩,
    ⟨(some 123), .call f_warehouseref6_Sum [(.t 122)], none⟩,
    ⟨(some 124), .extract (.t 123) 0, none⟩,
    ⟨(some 125), .extract (.t 123) 1, none⟩,
    ⟨(some 10), .move (.t 124), none⟩,
    ⟨(some 11), .move (.t 125), none⟩])
  .ret))))))))⟩

structure F_warehouseref17_Apply (P : Program) where
  id : FuncId
  warehouseref6_Expand : F_warehouseref6_Expand P
  warehouseref17_item : F_warehouseref17_item P
  warehouseref17_members : F_warehouseref17_members P
  warehouseref17_place : F_warehouseref17_place P
  warehouseref17_value : F_warehouseref17_value P
  warehouseref6_Sum : F_warehouseref6_Sum P
  has : Has P id [120, 200002] (c_warehouseref17_Apply warehouseref6_Expand.id warehouseref17_item.id warehouseref17_members.id warehouseref17_place.id warehouseref17_value.id warehouseref6_Sum.id)

def c_warehousebase_Rows (f_warehousebase_At : FuncId) (f_warehousebase_Row : FuncId) (f_warehouseref6_Normalize : FuncId) : AFunc := ⟨46, [.tmp 6],
  (.seq
  (.region [
    ⟨(some 6), .move (.c .nil), none⟩])
  (.seq
  (.region [
    ⟨(some 7), .move (.c .nil), none⟩])
  (.seq
  (.seq
  (.region [
    ⟨(some 8), .move (.c (.int .i64 0)), none⟩])
  (.seq
  (.block 0
    (.loop
      (.seq
      (.seq
      (.region [
        ⟨(some 13), .move (.t 8), none⟩,
        ⟨(some 14), .move (.t 2), none⟩,
        ⟨(some 15), .bin .lss (.t 13) (.t 14), none⟩])
      (.cond (.t 15)
        .skip
        (.exit 0)))
      (.seq
      (.block 1
        (.seq
        (.region [
          ⟨(some 9), .move (.c (.int .i64 1)), none⟩])
        (.seq
        (.seq
        (.region [
          ⟨(some 18), .move (.t 1), none⟩,
          ⟨(some 19), .move (.t 8), none⟩,
          ⟨(some 20), .bin .mul (.c (.int .i64 5)) (.t 19), none⟩,
          ⟨(some 21), .bin .add (.t 20) (.c (.int .i64 4)), none⟩,
          ⟨(some 22), .call f_warehousebase_At [(.t 18), (.t 21)], none⟩,
          ⟨(some 10), .move (.t 22), none⟩])
        (.seq
        (.region [
          ⟨(some 23), .move (.t 10), none⟩,
          ⟨(some 24), .bin .rem (.t 23) (.c (.int .i64 5)), none⟩,
          ⟨(some 25), .bin .eql (.t 24) (.c (.int .i64 0)), none⟩])
        (.cond (.t 25)
          (.region [
            ⟨(some 26), .move (.t 10), none⟩,
            ⟨(some 27), .bin .quo (.t 26) (.c (.int .i64 5)), none⟩,
            ⟨(some 28), .bin .rem (.t 27) (.c (.int .i64 3)), none⟩,
            ⟨(some 29), .bin .add (.c (.int .i64 1)) (.t 28), none⟩,
            ⟨(some 9), .move (.t 29), none⟩])
          .skip)))
        (.region [
          ⟨(some 30), .move (.t 7), none⟩,
          ⟨(some 31), .move (.t 0), none⟩,
          ⟨(some 32), .move (.t 1), none⟩,
          ⟨(some 33), .move (.t 8), none⟩,
          ⟨(some 34), .bin .mul (.c (.int .i64 5)) (.t 33), none⟩,
          ⟨(some 35), .call f_warehousebase_Row [(.t 31), (.t 32), (.t 34)], none⟩,
          ⟨(some 36), .move (.t 9), none⟩,
          ⟨(some 37), .build [.nil, (.int .i64 0)] [(0, 1, (.t 35)), (1, 1, (.t 36))], none⟩,
          ⟨(some 38), .buildSlice 2 1 [.nil, (.int .i64 0)] [(0, (.t 37))], none⟩,
          ⟨(some 39), .append 2 32 [.nil, (.int .i64 0)] (.t 30) (.t 38), none⟩,
          ⟨(some 7), .move (.t 39), none⟩]))))
      (.region [
        ⟨(some 16), .move (.t 8), none⟩,
        ⟨(some 17), .bin .add (.t 16) (.c (.int .i64 1)), none⟩,
        ⟨(some 8), .move (.t 17), none⟩])))))
  .ghost))
  (.seq
  (.region [
    ⟨(some 41), .move (.t 7), none⟩,
    ⟨(some 42), .call f_warehouseref6_Normalize [(.t 41)], none⟩,
    ⟨(some 40), .move (.t 42), none⟩,
    ⟨(some 43), .extract (.t 40) 0, none⟩,
    ⟨(some 44), .extract (.t 40) 1, none⟩,
    ⟨(some 11), .move (.t 43), none⟩,
    ⟨(some 12), .move (.t 44), none⟩])
  (.seq
  (.region [
    ⟨(some 45), .move (.t 11), none⟩,
    ⟨(some 6), .move (.t 45), none⟩])
  .ret)))))⟩

structure F_warehousebase_Rows (P : Program) where
  id : FuncId
  warehousebase_At : F_warehousebase_At P
  warehousebase_Row : F_warehousebase_Row P
  warehouseref6_Normalize : F_warehouseref6_Normalize P
  has : Has P id [200000] (c_warehousebase_Rows warehousebase_At.id warehousebase_Row.id warehouseref6_Normalize.id)

def c_warehouselaw18_table (f_warehousebase_Rows : FuncId) : AFunc := ⟨12, [.tmp 4],
  (.seq
  (.region [
    ⟨(some 4), .move (.c .nil), none⟩])
  (.seq
  (.region [
    ⟨(some 5), .build [(.str (bs [])), (.int .i64 0), (.bool false)] [(0, 1, (.c (.str (bs [97])))), (1, 1, (.c (.int .i64 2))), (2, 1, (.c (.bool true)))], none⟩,
    ⟨(some 6), .build [(.str (bs [])), (.int .i64 0), (.bool false)] [(0, 1, (.c (.str (bs [98])))), (1, 1, (.c (.int .i64 3)))], none⟩,
    ⟨(some 7), .build [(.str (bs [])), (.int .i64 0), (.bool false)] [(0, 1, (.c (.str (bs [99])))), (1, 1, (.c (.int .i64 2))), (2, 1, (.c (.bool true)))], none⟩,
    ⟨(some 8), .buildSlice 3 3 [(.str (bs [])), (.int .i64 0), (.bool false)] [(0, (.t 5)), (1, (.t 6)), (2, (.t 7))], none⟩,
    ⟨(some 9), .move (.t 0), none⟩,
    ⟨(some 10), .move (.t 1), none⟩,
    ⟨(some 11), .call f_warehousebase_Rows [(.t 8), (.t 9), (.t 10)], none⟩,
    ⟨(some 4), .move (.t 11), none⟩])
  .ret))⟩

structure F_warehouselaw18_table (P : Program) where
  id : FuncId
  warehousebase_Rows : F_warehousebase_Rows P
  has : Has P id [] (c_warehouselaw18_table warehousebase_Rows.id)

def c_warehouselaw18_items : AFunc := ⟨60, [.tmp 2, .tmp 3],
  (.seq
  (.region [
    ⟨(some 2), .move (.c .nil), none⟩,
    ⟨(some 3), .move (.c .nil), none⟩])
  (.seq
  (.region [
    ⟨(some 4), .move (.c .nil), none⟩])
  (.seq
  (.region [
    ⟨(some 5), .move (.c .nil), none⟩])
  (.seq
  (.region [
    ⟨(some 10), .buildSlice 1 8 [(.int .i64 0)] [(0, (.c (.int .i64 1))), (1, (.c (.int .i64 3))), (2, (.c (.int .i64 8))), (3, (.c (.int .i64 9))), (4, (.c (.int .i64 10))), (5, (.c (.int .i64 11))), (6, (.c (.int .i64 12))), (7, (.c (.int .i64 13)))], none⟩,
    ⟨(some 6), .move (.t 10), none⟩])
  (.seq
  (.seq
  (.region [
    ⟨(some 7), .move (.c (.int .i64 0)), none⟩])
  (.block 0
    (.loop
      (.seq
      (.seq
      (.region [
        ⟨(some 11), .move (.t 7), none⟩,
        ⟨(some 12), .move (.t 0), none⟩,
        ⟨(some 13), .bin .and (.t 12) (.c (.int .i64 1)), none⟩,
        ⟨(some 14), .bin .add (.c (.int .i64 1)) (.t 13), none⟩,
        ⟨(some 15), .move (.t 0), none⟩,
        ⟨(some 16), .bin .shr (.t 15) (.c (.int .u64 1)), none⟩,
        ⟨(some 17), .bin .and (.t 16) (.c (.int .i64 1)), none⟩,
        ⟨(some 18), .bin .add (.t 14) (.t 17), none⟩,
        ⟨(some 19), .bin .lss (.t 11) (.t 18), none⟩])
      (.cond (.t 19)
        .skip
        (.exit 0)))
      (.seq
      (.block 1
        (.seq
        (.region [
          ⟨(some 22), .move (.t 0), none⟩,
          ⟨(some 23), .move (.t 7), none⟩,
          ⟨(some 24), .bin .mul (.c (.int .i64 6)) (.t 23), none⟩,
          ⟨(some 25), .bin .add (.c (.int .i64 2)) (.t 24), none⟩,
          ⟨(some 26), .conv .u64 (.t 25), none⟩,
          ⟨(some 27), .bin .shr (.t 22) (.t 26), none⟩,
          ⟨(some 8), .move (.t 27), none⟩])
        (.seq
        (.region [
          ⟨(some 28), .move (.t 6), none⟩,
          ⟨(some 29), .move (.t 8), none⟩,
          ⟨(some 30), .bin .and (.t 29) (.c (.int .i64 7)), none⟩,
          ⟨(some 31), .indexAddr 1 (.t 28) (.t 30), none⟩,
          ⟨(some 32), .load false 1 (.t 31), none⟩,
          ⟨(some 33), .build [(.str (bs [])), (.int .i64 0), (.str (bs [])), (.int .i64 0), .nil] [(1, 1, (.t 32))], none⟩,
          ⟨(some 9), .alloc [(.str (bs [])), (.int .i64 0), (.str (bs [])), (.int .i64 0), .nil], none⟩,
          ⟨none, .store 5 (.t 9) (.t 33), none⟩])
        (.seq
        (.seq
        (.region [
          ⟨(some 34), .fieldAddr 1 (.t 9), none⟩,
          ⟨(some 35), .load false 1 (.t 34), none⟩,
          ⟨(some 36), .bin .eql (.t 35) (.c (.int .i64 10)), none⟩,
          ⟨(some 37), .move (.t 36), none⟩,
          ⟨(some 38), .fieldAddr 1 (.t 9), some (some 37, false)⟩,
          ⟨(some 39), .load false 1 (.t 38), some (some 37, false)⟩,
          ⟨(some 40), .bin .eql (.t 39) (.c (.int .i64 11)), some (some 37, false)⟩,
          ⟨(some 41), .pick (.t 37) (.c (.bool true)) (.t 40), none⟩])
        (.cond (.t 41)
          (.region [
            ⟨(some 42), .move (.t 8), none⟩,
            ⟨(some 43), .bin .shr (.t 42) (.c (.int .u64 3)), none⟩,
            ⟨(some 44), .bin .and (.t 43) (.c (.int .i64 3)), none⟩,
            ⟨(some 45), .bin .add (.c (.int .i64 1)) (.t 44), none⟩,
            ⟨(some 46), .fieldAddr 3 (.t 9), none⟩,
            ⟨none, .store 1 (.t 46) (.t 45), none⟩])
          .skip))
        (.region [
          ⟨(some 47), .move (.t 4), none⟩,
          ⟨(some 48), .load true 5 (.t 9), none⟩,
          ⟨(some 49), .buildSlice 5 1 [(.str (bs [])), (.int .i64 0), (.str (bs [])), (.int .i64 0), .nil] [(0, (.t 48))], none⟩,
          ⟨(some 50), .append 5 72 [(.str (bs [])), (.int .i64 0), (.str (bs [])), (.int .i64 0), .nil] (.t 47) (.t 49), none⟩,
          ⟨(some 51), .move (.t 5), none⟩,
          ⟨(some 52), .move (.t 8), none⟩,
          ⟨(some 53), .bin .shr (.t 52) (.c (.int .u64 4)), none⟩,
          ⟨(some 54), .bin .and (.t 53) (.c (.int .i64 1)), none⟩,
          ⟨(some 55), .bin .mul (.c (.int .i64 2)) (.t 54), none⟩,
          ⟨(some 56), .buildSlice 1 1 [(.int .i64 0)] [(0, (.t 55))], none⟩,
          ⟨(some 57), .append 1 8 [(.int .i64 0)] (.t 51) (.t 56), none⟩,
          ⟨(some 4), .move (.t 50), none⟩,
          ⟨(some 5), .move (.t 57), none⟩])))))
      (.region [
        ⟨(some 20), .move (.t 7), none⟩,
        ⟨(some 21), .bin .add (.t 20) (.c (.int .i64 1)), none⟩,
        ⟨(some 7), .move (.t 21), none⟩]))))))
  (.seq
  (.region [
    ⟨(some 58), .move (.t 4), none⟩,
    ⟨(some 59), .move (.t 5), none⟩,
    ⟨(some 2), .move (.t 58), none⟩,
    ⟨(some 3), .move (.t 59), none⟩])
  .ret))))))⟩

structure F_warehouselaw18_items (P : Program) where
  id : FuncId
  has : Has P id [] c_warehouselaw18_items

def c_warehouselaw18_places : AFunc := ⟨15, [.tmp 2],
  (.seq
  (.region [
    ⟨(some 2), .move (.c .nil), none⟩])
  (.seq
  (.region [
    ⟨(some 3), .buildSlice 1 1 [(.int .i64 0)] [(0, (.c (.int .i64 0)))], none⟩,
    ⟨(some 4), .buildSlice 1 1 [(.int .i64 0)] [(0, (.c (.int .i64 1)))], none⟩,
    ⟨(some 5), .buildSlice 1 1 [(.int .i64 0)] [(0, (.c (.int .i64 2)))], none⟩,
    ⟨(some 6), .buildSlice 1 2 [(.int .i64 0)] [(0, (.c (.int .i64 0))), (1, (.c (.int .i64 1)))], none⟩,
    ⟨(some 7), .buildSlice 1 2 [(.int .i64 0)] [(0, (.c (.int .i64 1))), (1, (.c (.int .i64 2)))], none⟩,
    ⟨(some 8), .buildSlice 1 2 [(.int .i64 0)] [(0, (.c (.int .i64 2))), (1, (.c (.int .i64 0)))], none⟩,
    ⟨(some 9), .buildSlice 1 2 [(.int .i64 0)] [(0, (.c (.int .i64 1))), (1, (.c (.int .i64 7)))], none⟩,
    ⟨(some 10), .buildSlice 1 8 [.nil] [(0, (.c .nil)), (1, (.t 3)), (2, (.t 4)), (3, (.t 5)), (4, (.t 6)), (5, (.t 7)), (6, (.t 8)), (7, (.t 9))], none⟩,
    ⟨(some 11), .move (.t 0), none⟩,
    ⟨(some 12), .bin .and (.t 11) (.c (.int .i64 7)), none⟩,
    ⟨(some 13), .indexAddr 1 (.t 10) (.t 12), none⟩,
    ⟨(some 14), .load false 1 (.t 13), none⟩,
    ⟨(some 2), .move (.t 14), none⟩])
  .ret))⟩

structure F_warehouselaw18_places (P : Program) where
  id : FuncId
  has : Has P id [] c_warehouselaw18_places

end Go.AW

namespace Go.AW
def c_warehouselaw18_WindowErrors (f_warehouselaw18_table : FuncId) (f_warehouselaw18_items : FuncId) (f_warehouselaw18_places : FuncId) (f_window_Apply : FuncId) (f_warehouseref17_Apply : FuncId) (f_warehouseref6_Same : FuncId) (f_warehouselaw18_known : FuncId) : AFunc := ⟨114, [.tmp 6],
  (.seq
  (.region [
    ⟨(some 6), .move (.c (.bool false)), none⟩])
  (.seq
  (.region [
    ⟨(some 15), .move (.t 0), none⟩,
    ⟨(some 16), .move (.t 1), none⟩,
    ⟨(some 17), .bin .and (.t 16) (.c (.int .i64 7)), none⟩,
    ⟨(some 18), .bin .add (.c (.int .i64 1)) (.t 17), none⟩,
    ⟨(some 19), .call f_warehouselaw18_table [(.t 15), (.t 18)], none⟩,
    ⟨(some 7), .move (.t 19), none⟩])
  (.seq
  (.region [
    ⟨(some 21), .move (.t 2), none⟩,
    ⟨(some 22), .call f_warehouselaw18_items [(.t 21)], none⟩,
    ⟨(some 20), .move (.t 22), none⟩,
    ⟨(some 23), .extract (.t 20) 0, none⟩,
    ⟨(some 24), .extract (.t 20) 1, none⟩,
    ⟨(some 8), .move (.t 23), none⟩,
    ⟨(some 9), .move (.t 24), none⟩])
  (.seq
  (.seq
  (.region [
    ⟨(some 25), .move (.t 1), none⟩,
    ⟨(some 26), .bin .shr (.t 25) (.c (.int .u64 3)), none⟩,
    ⟨(some 27), .bin .and (.t 26) (.c (.int .i64 7)), none⟩])
  (.seq
  (.block 0
    (.seq
    (.region [
      ⟨(some 29), .bin .eql (.t 27) (.c (.int .i64 0)), none⟩,
      ⟨(some 28), .move (.t 29), none⟩])
    (.cond (.t 28)
      (.region [
        ⟨(some 30), .move (.t 8), none⟩,
        ⟨(some 31), .move (.t 1), none⟩,
        ⟨(some 32), .bin .shr (.t 31) (.c (.int .u64 6)), none⟩,
        ⟨(some 33), .bin .and (.t 32) (.c (.int .i64 15)), none⟩,
        ⟨(some 34), .indexAddr 5 (.t 30) (.c (.int .i64 0)), none⟩,
        ⟨(some 35), .fieldAddr 1 (.t 34), none⟩,
        ⟨none, .store 1 (.t 35) (.t 33), none⟩])
      (.seq
      (.region [
        ⟨(some 37), .bin .eql (.t 27) (.c (.int .i64 1)), none⟩,
        ⟨(some 36), .move (.t 37), none⟩])
      (.cond (.t 36)
        (.region [
          ⟨(some 38), .move (.t 8), none⟩,
          ⟨(some 39), .move (.t 1), none⟩,
          ⟨(some 40), .bin .shr (.t 39) (.c (.int .u64 6)), none⟩,
          ⟨(some 41), .bin .and (.t 40) (.c (.int .i64 15)), none⟩,
          ⟨(some 42), .bin .sub (.t 41) (.c (.int .i64 3)), none⟩,
          ⟨(some 43), .indexAddr 5 (.t 38) (.c (.int .i64 0)), none⟩,
          ⟨(some 44), .fieldAddr 3 (.t 43), none⟩,
          ⟨none, .store 1 (.t 44) (.t 42), none⟩])
        (.seq
        (.region [
          ⟨(some 46), .bin .eql (.t 27) (.c (.int .i64 2)), none⟩,
          ⟨(some 45), .move (.t 46), none⟩])
        (.cond (.t 45)
          (.region [
            ⟨(some 47), .move (.t 9), none⟩,
            ⟨(some 48), .move (.t 9), none⟩,
            ⟨(some 49), .len (.t 48), none⟩,
            ⟨(some 50), .bin .sub (.t 49) (.c (.int .i64 1)), none⟩,
            ⟨(some 51), .slice 1 (.t 47) none (some (.t 50)), none⟩,
            ⟨(some 9), .move (.t 51), none⟩])
          (.seq
          (.region [
            ⟨(some 53), .bin .eql (.t 27) (.c (.int .i64 3)), none⟩,
            ⟨(some 52), .move (.t 53), none⟩])
          (.cond (.t 52)
            (.region [
              ⟨(some 54), .move (.t 9), none⟩,
              ⟨(some 55), .move (.t 1), none⟩,
              ⟨(some 56), .bin .shr (.t 55) (.c (.int .u64 6)), none⟩,
              ⟨(some 57), .bin .and (.t 56) (.c (.int .i64 3)), none⟩,
              ⟨(some 58), .bin .sub (.t 57) (.c (.int .i64 1)), none⟩,
              ⟨(some 59), .indexAddr 1 (.t 54) (.c (.int .i64 0)), none⟩,
              ⟨none, .store 1 (.t 59) (.t 58), none⟩])
            (.seq
            (.region [
              ⟨(some 61), .bin .eql (.t 27) (.c (.int .i64 4)), none⟩,
              ⟨(some 60), .move (.t 61), none⟩])
            (.cond (.t 60)
              (.region [
                ⟨(some 62), .move (.t 7), none⟩,
                ⟨(some 63), .indexAddr 2 (.t 62) (.c (.int .i64 0)), none⟩,
                ⟨(some 64), .fieldAddr 1 (.t 63), none⟩,
                ⟨none, .store 1 (.t 64) (.c (.int .i64 (-1))), none⟩])
              (.seq
              (.region [
                ⟨(some 66), .bin .eql (.t 27) (.c (.int .i64 5)), none⟩,
                ⟨(some 65), .move (.t 66), none⟩])
              (.cond (.t 65)
                (.seq
                (.region [
                  ⟨(some 10), .move (.c (.int .i64 0)), none⟩])
                (.block 1
                  (.loop
                    (.seq
                    (.seq
                    (.region [
                      ⟨(some 67), .move (.t 10), none⟩,
                      ⟨(some 68), .bin .lss (.t 67) (.c (.int .i64 10)), none⟩])
                    (.cond (.t 68)
                      .skip
                      (.exit 1)))
                    (.seq
                    (.block 2
                      (.draw [
                        (⟨(some 71), .move (.t 8), none⟩, []),
                        (⟨(some 72), .move (.t 8), none⟩, []),
                        (⟨(some 73), .indexAddr 5 (.t 72) (.c (.int .i64 0)), none⟩, []),
                        (⟨(some 74), .load true 5 (.t 73), none⟩, []),
                        (⟨(some 75), .buildSlice 5 1 [(.str (bs [])), (.int .i64 0), (.str (bs [])), (.int .i64 0), .nil] [(0, (.t 74))], none⟩, []),
                        (⟨(some 76), .append 5 72 [(.str (bs [])), (.int .i64 0), (.str (bs [])), (.int .i64 0), .nil] (.t 71) (.t 75), none⟩, []),
                        (⟨(some 77), .move (.t 9), none⟩, []),
                        (⟨(some 78), .move (.t 9), none⟩, []),
                        (⟨(some 79), .indexAddr 1 (.t 78) (.c (.int .i64 0)), none⟩, [14]),
                        (⟨(some 80), .load false 1 (.t 79), none⟩, [14]),
                        (⟨(some 81), .buildSlice 1 1 [(.int .i64 0)] [(0, (.t 80))], none⟩, []),
                        (⟨(some 82), .append 1 8 [(.int .i64 0)] (.t 77) (.t 81), none⟩, []),
                        (⟨(some 8), .move (.t 76), none⟩, []),
                        (⟨(some 9), .move (.t 82), none⟩, [])]))
                    (.region [
                      ⟨(some 69), .move (.t 10), none⟩,
                      ⟨(some 70), .bin .add (.t 69) (.c (.int .i64 1)), none⟩,
                      ⟨(some 10), .move (.t 70), none⟩]))))))
                .skip)))))))))))))
  .ghost))
  (.seq
  (.region [
    ⟨(some 84), .move (.t 8), none⟩,
    ⟨(some 85), .move (.t 1), none⟩,
    ⟨(some 86), .bin .shr (.t 85) (.c (.int .u64 10)), none⟩,
    ⟨(some 87), .call f_warehouselaw18_places [(.t 86)], none⟩,
    ⟨(some 88), .move (.t 9), none⟩,
    ⟨(some 89), .move (.t 7), none⟩,
    ⟨(some 90), .call f_window_Apply [(.t 84), (.t 87), (.c .nil), (.t 88), (.t 89)], none⟩,
    ⟨(some 83), .move (.t 90), none⟩,
    ⟨(some 91), .extract (.t 83) 0, none⟩,
    ⟨(some 92), .extract (.t 83) 1, none⟩,
    ⟨(some 11), .move (.t 91), none⟩,
    ⟨(some 12), .move (.t 92), none⟩])
  (.seq
  (.region [
    ⟨(some 94), .move (.t 8), none⟩,
    ⟨(some 95), .move (.t 1), none⟩,
    ⟨(some 96), .bin .shr (.t 95) (.c (.int .u64 10)), none⟩,
    ⟨(some 97), .call f_warehouselaw18_places [(.t 96)], none⟩,
    ⟨(some 98), .move (.t 9), none⟩,
    ⟨(some 99), .move (.t 7), none⟩,
    ⟨(some 100), .call f_warehouseref17_Apply [(.t 94), (.t 97), (.c .nil), (.t 98), (.t 99)], none⟩,
    ⟨(some 93), .move (.t 100), none⟩,
    ⟨(some 101), .extract (.t 93) 0, none⟩,
    ⟨(some 102), .extract (.t 93) 1, none⟩,
    ⟨(some 13), .move (.t 101), none⟩,
    ⟨(some 14), .move (.t 102), none⟩])
  (.seq
  (.region [
    ⟨(some 103), .move (.t 11), none⟩,
    ⟨(some 104), .move (.t 13), none⟩,
    ⟨(some 105), .call f_warehouseref6_Same [(.t 103), (.t 104)], none⟩,
    ⟨(some 106), .move (.t 105), none⟩,
    ⟨(some 107), .move (.t 12), some (some 106, true)⟩,
    ⟨(some 108), .move (.t 14), some (some 106, true)⟩,
    ⟨(some 109), .bin .eql (.t 107) (.t 108), some (some 106, true)⟩,
    ⟨(some 110), .pick (.t 106) (.t 109) (.c (.bool false)), none⟩,
    ⟨(some 111), .move (.t 110), none⟩,
    ⟨(some 112), .call f_warehouselaw18_known [], some (some 111, true)⟩,
    ⟨(some 113), .pick (.t 111) (.t 112) (.c (.bool false)), none⟩,
    ⟨(some 6), .move (.t 113), none⟩])
  .ret)))))))⟩

structure F_warehouselaw18_WindowErrors (P : Program) where
  id : FuncId
  warehouselaw18_table : F_warehouselaw18_table P
  warehouselaw18_items : F_warehouselaw18_items P
  warehouselaw18_places : F_warehouselaw18_places P
  window_Apply : F_window_Apply P
  warehouseref17_Apply : F_warehouseref17_Apply P
  warehouseref6_Same : F_warehouseref6_Same P
  warehouselaw18_known : F_warehouselaw18_known P
  has : Has P id [200000] (c_warehouselaw18_WindowErrors warehouselaw18_table.id warehouselaw18_items.id warehouselaw18_places.id window_Apply.id warehouseref17_Apply.id warehouseref6_Same.id warehouselaw18_known.id)

end Go.AW

