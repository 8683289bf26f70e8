/-
  An abstract machine over the model, the code of functions on it, and their contracts: what the claim needs.
  No condition: definitions, plain laws, contracts over any program that has this code.
-/
import Derived.Test.YtgmobjimfalhoaaZ3
set_option linter.all false
namespace Go.AW
def c_window_cell (f_schema_Pick : FuncId) : AFunc := ⟨11, [.cell true 3 4],
  (.seq
  (.region [
    ⟨(some 4), .alloc [(.int .i64 0), (.int .i64 0), (.str (bs []))], none⟩])
  (.seq
  (.region [
    ⟨(some 5), .move (.t 0), none⟩,
    ⟨(some 6), .move (.t 1), none⟩,
    ⟨(some 7), .buildSlice 1 1 [(.int .i64 0)] [(0, (.t 6))], none⟩,
    ⟨(some 8), .call f_schema_Pick [(.t 5), (.t 7)], none⟩,
    ⟨(some 9), .indexAddr 3 (.t 8) (.c (.int .i64 0)), none⟩,
    ⟨(some 10), .load true 3 (.t 9), none⟩,
    ⟨none, .store 3 (.t 4) (.t 10), none⟩])
  .ret))⟩

structure F_window_cell (P : Program) where
  id : FuncId
  schema_Pick : F_schema_Pick P
  has : Has P id [] (c_window_cell schema_Pick.id)

def c_window_check (f_window_cell : FuncId) : AFunc := ⟨86, [.tmp 6],
  (.seq
  (.region [
    ⟨(some 6), .move (.c (.int .i64 0)), none⟩])
  (.seq
  (.seq
  (.region [
    ⟨(some 12), .move (.t 0), none⟩,
    ⟨(some 13), .len (.t 12), none⟩,
    ⟨(some 14), .move (.t 1), none⟩,
    ⟨(some 15), .len (.t 14), none⟩,
    ⟨(some 16), .bin .neq (.t 13) (.t 15), none⟩])
  (.cond (.t 16)
    (.seq
    (.region [
      ⟨(some 6), .move (.c (.int .i64 8)), none⟩])
    .ret)
    .skip))
  (.seq
  (.seq
  (.region [
    ⟨(some 17), .move (.t 0), none⟩,
    ⟨(some 18), .len (.t 17), none⟩,
    ⟨(some 19), .move (.c (.int .i64 0)), none⟩])
  (.block 0
    (.loop
      (.seq
      (.region [
        ⟨(some 20), .bin .lss (.t 19) (.t 18), none⟩])
      (.seq
      (.cond (.t 20)
        .skip
        (.exit 0))
      (.seq
      (.block 1
        (.seq
        (.region [
          ⟨(some 21), .move (.t 19), none⟩,
          ⟨(some 22), .indexAddr 5 (.t 17) (.t 19), none⟩,
          ⟨(some 23), .load true 5 (.t 22), none⟩,
          ⟨(some 8), .alloc [(.str (bs [])), (.int .i64 0), (.str (bs [])), (.int .i64 0), .nil], none⟩,
          ⟨(some 7), .move (.t 21), none⟩,
          ⟨none, .store 5 (.t 8) (.t 23), none⟩])
        (.seq
        (.block 2
          (.seq
          (.region [
            ⟨(some 25), .fieldAddr 1 (.t 8), none⟩,
            ⟨(some 26), .load false 1 (.t 25), none⟩,
            ⟨(some 27), .bin .neq (.t 26) (.c (.int .i64 1)), none⟩,
            ⟨(some 28), .move (.t 27), none⟩,
            ⟨(some 29), .fieldAddr 1 (.t 8), some (some 28, true)⟩,
            ⟨(some 30), .load false 1 (.t 29), some (some 28, true)⟩,
            ⟨(some 31), .bin .neq (.t 30) (.c (.int .i64 3)), some (some 28, true)⟩,
            ⟨(some 32), .pick (.t 28) (.t 31) (.c (.bool false)), none⟩,
            ⟨(some 33), .move (.t 32), none⟩,
            ⟨(some 34), .fieldAddr 1 (.t 8), some (some 33, true)⟩,
            ⟨(some 35), .load false 1 (.t 34), some (some 33, true)⟩,
            ⟨(some 36), .bin .lss (.t 35) (.c (.int .i64 8)), some (some 33, true)⟩,
            ⟨(some 37), .move (.t 36), some (some 33, true)⟩,
            ⟨(some 38), .fieldAddr 1 (.t 8), some (some 37, false)⟩,
            ⟨(some 39), .load false 1 (.t 38), some (some 37, false)⟩,
            ⟨(some 40), .bin .gtr (.t 39) (.c (.int .i64 13)), some (some 37, false)⟩,
            ⟨(some 41), .pick (.t 37) (.c (.bool true)) (.t 40), some (some 33, true)⟩,
            ⟨(some 42), .pick (.t 33) (.t 41) (.c (.bool false)), none⟩,
            ⟨(some 24), .move (.t 42), none⟩])
          (.cond (.t 24)
            (.seq
            (.region [
              ⟨(some 6), .move (.c (.int .i64 8)), none⟩])
            .ret)
            (.seq
            (.region [
              ⟨(some 44), .fieldAddr 1 (.t 8), none⟩,
              ⟨(some 45), .load false 1 (.t 44), none⟩,
              ⟨(some 46), .bin .eql (.t 45) (.c (.int .i64 10)), none⟩,
              ⟨(some 47), .move (.t 46), none⟩,
              ⟨(some 48), .fieldAddr 1 (.t 8), some (some 47, false)⟩,
              ⟨(some 49), .load false 1 (.t 48), some (some 47, false)⟩,
              ⟨(some 50), .bin .eql (.t 49) (.c (.int .i64 11)), some (some 47, false)⟩,
              ⟨(some 51), .pick (.t 47) (.c (.bool true)) (.t 50), none⟩,
              ⟨(some 52), .move (.t 51), none⟩,
              ⟨(some 53), .fieldAddr 3 (.t 8), some (some 52, true)⟩,
              ⟨(some 54), .load false 1 (.t 53), some (some 52, true)⟩,
              ⟨(some 55), .bin .lss (.t 54) (.c (.int .i64 1)), some (some 52, true)⟩,
              ⟨(some 56), .move (.t 55), some (some 52, true)⟩,
              ⟨(some 57), .fieldAddr 3 (.t 8), some (some 56, false)⟩,
              ⟨(some 58), .load false 1 (.t 57), some (some 56, false)⟩,
              ⟨(some 59), .bin .gtr (.t 58) (.c (.int .i64 4096)), some (some 56, false)⟩,
              ⟨(some 60), .pick (.t 56) (.c (.bool true)) (.t 59), some (some 52, true)⟩,
              ⟨(some 61), .pick (.t 52) (.t 60) (.c (.bool false)), none⟩,
              ⟨(some 43), .move (.t 61), none⟩])
            (.cond (.t 43)
              (.seq
              (.region [
                ⟨(some 6), .move (.c (.int .i64 1)), none⟩])
              .ret)
              .skip)))))
        (.seq
        (.seq
        (.region [
          ⟨(some 62), .fieldAddr 1 (.t 8), none⟩,
          ⟨(some 63), .load false 1 (.t 62), none⟩,
          ⟨(some 64), .bin .neq (.t 63) (.c (.int .i64 3)), none⟩])
        (.cond (.t 64)
          (.exit 1)
          .skip))
        (.seq
        (.region [
          ⟨(some 65), .move (.t 2), none⟩,
          ⟨(some 66), .len (.t 65), none⟩,
          ⟨(some 67), .move (.c (.int .i64 0)), none⟩])
        (.block 3
          (.loop
            (.seq
            (.region [
              ⟨(some 68), .bin .lss (.t 67) (.t 66), none⟩])
            (.seq
            (.cond (.t 68)
              .skip
              (.exit 3))
            (.seq
            (.block 4
              (.seq
              (.region [
                ⟨(some 69), .indexAddr 1 (.t 65) (.t 67), none⟩,
                ⟨(some 70), .load false 1 (.t 69), none⟩,
                ⟨(some 10), .move (.t 70), none⟩])
              (.seq
              (.region [
                ⟨(some 71), .move (.t 10), none⟩,
                ⟨(some 72), .move (.t 1), none⟩,
                ⟨(some 73), .move (.t 7), none⟩,
                ⟨(some 74), .indexAddr 1 (.t 72) (.t 73), none⟩,
                ⟨(some 75), .load false 1 (.t 74), none⟩,
                ⟨(some 76), .call f_window_cell [(.t 71), (.t 75)], none⟩,
                ⟨(some 77), .field false 0 1 (.t 76), none⟩,
                ⟨(some 11), .move (.t 77), none⟩])
              (.seq
              (.region [
                ⟨(some 78), .move (.t 11), none⟩,
                ⟨(some 79), .bin .neq (.t 78) (.c (.int .i64 0)), none⟩,
                ⟨(some 80), .move (.t 79), none⟩,
                ⟨(some 81), .move (.t 11), some (some 80, true)⟩,
                ⟨(some 82), .bin .neq (.t 81) (.c (.int .i64 2)), some (some 80, true)⟩,
                ⟨(some 83), .pick (.t 80) (.t 82) (.c (.bool false)), none⟩])
              (.cond (.t 83)
                (.seq
                (.region [
                  ⟨(some 6), .move (.c (.int .i64 7)), none⟩])
                .ret)
                .skip)))))
            (.region [
              ⟨(some 84), .bin .add (.t 67) (.c (.int .i64 1)), none⟩,
              ⟨(some 67), .move (.t 84), none⟩])))))))))))
      (.region [
        ⟨(some 85), .bin .add (.t 19) (.c (.int .i64 1)), none⟩,
        ⟨(some 19), .move (.t 85), none⟩])))))))
  (.seq
  (.region [
    ⟨(some 6), .move (.c (.int .i64 0)), none⟩])
  .ret))))⟩

structure F_window_check (P : Program) where
  id : FuncId
  window_cell : F_window_cell P
  has : Has P id [] (c_window_check window_cell.id)

def c_window_fingerprint (f_value_Encode : FuncId) : AFunc := ⟨26, [.tmp 2],
  (.seq
  (.region [
    ⟨(some 2), .move (.c (.str (bs []))), none⟩])
  (.seq
  (.region [
    ⟨(some 3), .move (.c .nil), none⟩])
  (.seq
  (.seq
  (.region [
    ⟨(some 8), .move (.t 0), none⟩,
    ⟨(some 9), .len (.t 8), none⟩,
    ⟨(some 10), .move (.c (.int .i64 0)), none⟩])
  (.block 0
    (.loop
      (.seq
      (.region [
        ⟨(some 11), .bin .lss (.t 10) (.t 9), none⟩])
      (.seq
      (.cond (.t 11)
        .skip
        (.exit 0))
      (.seq
      (.block 1
        (.seq
        (.region [
          ⟨(some 12), .indexAddr 3 (.t 8) (.t 10), none⟩,
          ⟨(some 13), .load true 3 (.t 12), none⟩,
          ⟨(some 5), .alloc [(.int .i64 0), (.int .i64 0), (.str (bs []))], none⟩,
          ⟨none, .store 3 (.t 5) (.t 13), none⟩])
        (.seq
        (.region [
          ⟨(some 15), .load true 3 (.t 5), none⟩,
          ⟨(some 16), .buildSlice 3 1 [(.int .i64 0), (.int .i64 0), (.str (bs []))] [(0, (.t 15))], none⟩,
          ⟨(some 17), .call f_value_Encode [(.t 16)], none⟩,
          ⟨(some 14), .move (.t 17), none⟩,
          ⟨(some 18), .extract (.t 14) 0, none⟩,
          ⟨(some 19), .extract (.t 14) 1, none⟩,
          ⟨(some 6), .move (.t 18), none⟩,
          ⟨(some 7), .move (.t 19), none⟩])
        (.region [
          ⟨(some 20), .move (.t 3), none⟩,
          ⟨(some 21), .move (.t 6), none⟩,
          ⟨(some 22), .append 1 1 [(.int .u8 0)] (.t 20) (.t 21), none⟩,
          ⟨(some 3), .move (.t 22), none⟩]))))
      (.region [
        ⟨(some 23), .bin .add (.t 10) (.c (.int .i64 1)), none⟩,
        ⟨(some 10), .move (.t 23), none⟩])))))))
  (.seq
  (.region [
    ⟨(some 24), .move (.t 3), none⟩,
    ⟨(some 25), .convBS (.t 24), none⟩,
    ⟨(some 2), .move (.t 25), none⟩])
  .ret))))⟩

structure F_window_fingerprint (P : Program) where
  id : FuncId
  value_Encode : F_value_Encode P
  has : Has P id [] (c_window_fingerprint value_Encode.id)

def c_window_partitions_1 (f_schema_Pick : FuncId) (f_value_CompareRows : FuncId) : AFunc := ⟨20, [.tmp 5],
  (.seq
  (.region [
    ⟨(some 5), .move (.c (.int .i64 0)), none⟩])
  (.seq
  (.seq
  (.draw [
    (⟨(some 7), .move (.t 0), none⟩, []),
    (⟨(some 8), .load false 1 (.t 2), none⟩, []),
    (⟨(some 9), .call f_schema_Pick [(.t 7), (.t 8)], none⟩, []),
    (⟨(some 10), .move (.t 1), none⟩, []),
    (⟨(some 11), .load false 1 (.t 2), none⟩, []),
    (⟨(some 12), .call f_schema_Pick [(.t 10), (.t 11)], none⟩, []),
    (⟨(some 13), .call f_value_CompareRows [(.t 9), (.t 12)], none⟩, []),
    (⟨(some 6), .move (.t 13), none⟩, [])])
  (.seq
  (.region [
    ⟨(some 14), .move (.t 6), none⟩,
    ⟨(some 15), .bin .neq (.t 14) (.c (.int .i64 0)), none⟩])
  (.cond (.t 15)
    (.seq
    (.region [
      ⟨(some 16), .move (.t 6), none⟩,
      ⟨(some 5), .move (.t 16), none⟩])
    .ret)
    .skip)))
  (.seq
  (.region [
    ⟨(some 17), .move (.t 0), none⟩,
    ⟨(some 18), .move (.t 1), none⟩,
    ⟨(some 19), .call f_value_CompareRows [(.t 17), (.t 18)], none⟩,
    ⟨(some 5), .move (.t 19), none⟩])
  .ret)))⟩

structure F_window_partitions_1 (P : Program) where
  id : FuncId
  schema_Pick : F_schema_Pick P
  value_CompareRows : F_value_CompareRows P
  has : Has P id [] (c_window_partitions_1 schema_Pick.id value_CompareRows.id)

def c_slices_insertionSortCmpFunc_LValue : AFunc := ⟨53, [],
  (.seq
  (.region [
    ⟨(some 10), .move (.t 1), none⟩,
    ⟨(some 11), .bin .add (.t 10) (.c (.int .i64 1)), none⟩,
    ⟨(some 8), .move (.t 11), none⟩])
  (.block 0
    (.loop
      (.seq
      (.seq
      (.region [
        ⟨(some 12), .move (.t 8), none⟩,
        ⟨(some 13), .move (.t 2), none⟩,
        ⟨(some 14), .bin .lss (.t 12) (.t 13), none⟩])
      (.cond (.t 14)
        .skip
        (.exit 0)))
      (.seq
      (.block 1
        (.seq
        (.region [
          ⟨(some 17), .move (.t 8), none⟩,
          ⟨(some 9), .move (.t 17), none⟩])
        (.block 2
          (.loop
            (.seq
            (.seq
            (.draw [
              (⟨(some 18), .move (.t 9), none⟩, []),
              (⟨(some 19), .move (.t 1), none⟩, []),
              (⟨(some 20), .bin .gtr (.t 18) (.t 19), none⟩, []),
              (⟨(some 21), .move (.t 20), none⟩, []),
              (⟨(some 22), .move (.t 3), some (some 21, true)⟩, []),
              (⟨(some 23), .move (.t 0), some (some 21, true)⟩, []),
              (⟨(some 24), .move (.t 9), some (some 21, true)⟩, []),
              (⟨(some 25), .indexAddr 1 (.t 23) (.t 24), some (some 21, true)⟩, []),
              (⟨(some 26), .load false 1 (.t 25), some (some 21, true)⟩, []),
              (⟨(some 27), .move (.t 0), some (some 21, true)⟩, []),
              (⟨(some 28), .move (.t 9), some (some 21, true)⟩, []),
              (⟨(some 29), .bin .sub (.t 28) (.c (.int .i64 1)), some (some 21, true)⟩, []),
              (⟨(some 30), .indexAddr 1 (.t 27) (.t 29), some (some 21, true)⟩, []),
              (⟨(some 31), .load false 1 (.t 30), some (some 21, true)⟩, []),
              (⟨(some 32), .callv (.t 22) [(.t 26), (.t 31)], some (some 21, true)⟩, []),
              (⟨(some 33), .bin .lss (.t 32) (.c (.int .i64 0)), some (some 21, true)⟩, []),
              (⟨(some 34), .pick (.t 21) (.t 33) (.c (.bool false)), none⟩, [])])
            (.cond (.t 34)
              .skip
              (.exit 2)))
            (.seq
            (.block 3
              (.draw [
                (⟨(some 37), .move (.t 0), none⟩, []),
                (⟨(some 38), .move (.t 9), none⟩, []),
                (⟨(some 39), .move (.t 0), none⟩, []),
                (⟨(some 40), .move (.t 9), none⟩, []),
                (⟨(some 41), .bin .sub (.t 40) (.c (.int .i64 1)), none⟩, []),
                (⟨(some 42), .move (.t 0), none⟩, []),
                (⟨(some 43), .move (.t 9), none⟩, []),
                (⟨(some 44), .bin .sub (.t 43) (.c (.int .i64 1)), none⟩, []),
                (⟨(some 45), .indexAddr 1 (.t 42) (.t 44), none⟩, []),
                (⟨(some 46), .load false 1 (.t 45), none⟩, []),
                (⟨(some 47), .move (.t 0), none⟩, []),
                (⟨(some 48), .move (.t 9), none⟩, []),
                (⟨(some 49), .indexAddr 1 (.t 47) (.t 48), none⟩, []),
                (⟨(some 50), .load false 1 (.t 49), none⟩, []),
                (⟨(some 51), .indexAddr 1 (.t 37) (.t 38), none⟩, []),
                (⟨none, .store 1 (.t 51) (.t 46), none⟩, []),
                (⟨(some 52), .indexAddr 1 (.t 39) (.t 41), none⟩, []),
                (⟨none, .store 1 (.t 52) (.t 50), none⟩, [])]))
            (.region [
              ⟨(some 35), .move (.t 9), none⟩,
              ⟨(some 36), .bin .sub (.t 35) (.c (.int .i64 1)), none⟩,
              ⟨(some 9), .move (.t 36), none⟩])))))))
      (.region [
        ⟨(some 15), .move (.t 8), none⟩,
        ⟨(some 16), .bin .add (.t 15) (.c (.int .i64 1)), none⟩,
        ⟨(some 8), .move (.t 16), none⟩]))))))⟩

structure F_slices_insertionSortCmpFunc_LValue (P : Program) where
  id : FuncId
  has : Has P id [] c_slices_insertionSortCmpFunc_LValue

def c_slices_siftDownCmpFunc_LValue : AFunc := ⟨82, [],
  (.seq
  (.region [
    ⟨(some 12), .move (.t 1), none⟩,
    ⟨(some 10), .move (.t 12), none⟩])
  (.block 0
    (.loop
      (.block 1
        (.seq
        (.region [
          ⟨(some 13), .move (.t 10), none⟩,
          ⟨(some 14), .bin .mul (.c (.int .i64 2)) (.t 13), none⟩,
          ⟨(some 15), .bin .add (.t 14) (.c (.int .i64 1)), none⟩,
          ⟨(some 11), .move (.t 15), none⟩])
        (.seq
        (.seq
        (.region [
          ⟨(some 16), .move (.t 11), none⟩,
          ⟨(some 17), .move (.t 2), none⟩,
          ⟨(some 18), .bin .geq (.t 16) (.t 17), none⟩])
        (.cond (.t 18)
          (.exit 0)
          .skip))
        (.seq
        (.seq
        (.draw [
          (⟨(some 19), .move (.t 11), none⟩, []),
          (⟨(some 20), .bin .add (.t 19) (.c (.int .i64 1)), none⟩, []),
          (⟨(some 21), .move (.t 2), none⟩, []),
          (⟨(some 22), .bin .lss (.t 20) (.t 21), none⟩, []),
          (⟨(some 23), .move (.t 22), none⟩, []),
          (⟨(some 24), .move (.t 4), some (some 23, true)⟩, []),
          (⟨(some 25), .move (.t 0), some (some 23, true)⟩, []),
          (⟨(some 26), .move (.t 3), some (some 23, true)⟩, []),
          (⟨(some 27), .move (.t 11), some (some 23, true)⟩, []),
          (⟨(some 28), .bin .add (.t 26) (.t 27), some (some 23, true)⟩, []),
          (⟨(some 29), .indexAddr 1 (.t 25) (.t 28), some (some 23, true)⟩, []),
          (⟨(some 30), .load false 1 (.t 29), some (some 23, true)⟩, []),
          (⟨(some 31), .move (.t 0), some (some 23, true)⟩, []),
          (⟨(some 32), .move (.t 3), some (some 23, true)⟩, []),
          (⟨(some 33), .move (.t 11), some (some 23, true)⟩, []),
          (⟨(some 34), .bin .add (.t 32) (.t 33), some (some 23, true)⟩, []),
          (⟨(some 35), .bin .add (.t 34) (.c (.int .i64 1)), some (some 23, true)⟩, []),
          (⟨(some 36), .indexAddr 1 (.t 31) (.t 35), some (some 23, true)⟩, []),
          (⟨(some 37), .load false 1 (.t 36), some (some 23, true)⟩, []),
          (⟨(some 38), .callv (.t 24) [(.t 30), (.t 37)], some (some 23, true)⟩, []),
          (⟨(some 39), .bin .lss (.t 38) (.c (.int .i64 0)), some (some 23, true)⟩, []),
          (⟨(some 40), .pick (.t 23) (.t 39) (.c (.bool false)), none⟩, [])])
        (.cond (.t 40)
          (.region [
            ⟨(some 41), .move (.t 11), none⟩,
            ⟨(some 42), .bin .add (.t 41) (.c (.int .i64 1)), none⟩,
            ⟨(some 11), .move (.t 42), none⟩])
          .skip))
        (.seq
        (.seq
        (.draw [
          (⟨(some 43), .move (.t 4), none⟩, []),
          (⟨(some 44), .move (.t 0), none⟩, []),
          (⟨(some 45), .move (.t 3), none⟩, []),
          (⟨(some 46), .move (.t 10), none⟩, []),
          (⟨(some 47), .bin .add (.t 45) (.t 46), none⟩, []),
          (⟨(some 48), .indexAddr 1 (.t 44) (.t 47), none⟩, []),
          (⟨(some 49), .load false 1 (.t 48), none⟩, []),
          (⟨(some 50), .move (.t 0), none⟩, []),
          (⟨(some 51), .move (.t 3), none⟩, []),
          (⟨(some 52), .move (.t 11), none⟩, []),
          (⟨(some 53), .bin .add (.t 51) (.t 52), none⟩, []),
          (⟨(some 54), .indexAddr 1 (.t 50) (.t 53), none⟩, []),
          (⟨(some 55), .load false 1 (.t 54), none⟩, []),
          (⟨(some 56), .callv (.t 43) [(.t 49), (.t 55)], none⟩, []),
          (⟨(some 57), .bin .lss (.t 56) (.c (.int .i64 0)), none⟩, []),
          (⟨(some 58), .un .not (.t 57), none⟩, [])])
        (.cond (.t 58)
          .ret
          .skip))
        (.seq
        (.draw [
          (⟨(some 59), .move (.t 0), none⟩, []),
          (⟨(some 60), .move (.t 3), none⟩, []),
          (⟨(some 61), .move (.t 10), none⟩, []),
          (⟨(some 62), .bin .add (.t 60) (.t 61), none⟩, []),
          (⟨(some 63), .move (.t 0), none⟩, []),
          (⟨(some 64), .move (.t 3), none⟩, []),
          (⟨(some 65), .move (.t 11), none⟩, []),
          (⟨(some 66), .bin .add (.t 64) (.t 65), none⟩, []),
          (⟨(some 67), .move (.t 0), none⟩, []),
          (⟨(some 68), .move (.t 3), none⟩, []),
          (⟨(some 69), .move (.t 11), none⟩, []),
          (⟨(some 70), .bin .add (.t 68) (.t 69), none⟩, []),
          (⟨(some 71), .indexAddr 1 (.t 67) (.t 70), none⟩, []),
          (⟨(some 72), .load false 1 (.t 71), none⟩, []),
          (⟨(some 73), .move (.t 0), none⟩, []),
          (⟨(some 74), .move (.t 3), none⟩, []),
          (⟨(some 75), .move (.t 10), none⟩, []),
          (⟨(some 76), .bin .add (.t 74) (.t 75), none⟩, []),
          (⟨(some 77), .indexAddr 1 (.t 73) (.t 76), none⟩, []),
          (⟨(some 78), .load false 1 (.t 77), none⟩, []),
          (⟨(some 79), .indexAddr 1 (.t 59) (.t 62), none⟩, []),
          (⟨none, .store 1 (.t 79) (.t 72), none⟩, []),
          (⟨(some 80), .indexAddr 1 (.t 63) (.t 66), none⟩, []),
          (⟨none, .store 1 (.t 80) (.t 78), none⟩, [])])
        (.region [
          ⟨(some 81), .move (.t 11), none⟩,
          ⟨(some 10), .move (.t 81), none⟩]))))))))))⟩

structure F_slices_siftDownCmpFunc_LValue (P : Program) where
  id : FuncId
  has : Has P id [] c_slices_siftDownCmpFunc_LValue

def c_slices_heapSortCmpFunc_LValue (f_slices_siftDownCmpFunc_LValue : FuncId) : AFunc := ⟨60, [],
  (.seq
  (.region [
    ⟨(some 13), .move (.t 1), none⟩,
    ⟨(some 8), .move (.t 13), none⟩])
  (.seq
  (.region [
    ⟨(some 9), .move (.c (.int .i64 0)), none⟩])
  (.seq
  (.region [
    ⟨(some 14), .move (.t 2), none⟩,
    ⟨(some 15), .move (.t 1), none⟩,
    ⟨(some 16), .bin .sub (.t 14) (.t 15), none⟩,
    ⟨(some 10), .move (.t 16), none⟩])
  (.seq
  (.seq
  (.region [
    ⟨(some 17), .move (.t 10), none⟩,
    ⟨(some 18), .bin .sub (.t 17) (.c (.int .i64 1)), none⟩,
    ⟨(some 19), .bin .quo (.t 18) (.c (.int .i64 2)), none⟩,
    ⟨(some 11), .move (.t 19), none⟩])
  (.block 0
    (.loop
      (.seq
      (.seq
      (.region [
        ⟨(some 20), .move (.t 11), none⟩,
        ⟨(some 21), .bin .geq (.t 20) (.c (.int .i64 0)), none⟩])
      (.cond (.t 21)
        .skip
        (.exit 0)))
      (.seq
      (.block 1
        (.region [
          ⟨(some 24), .move (.t 0), none⟩,
          ⟨(some 25), .move (.t 11), none⟩,
          ⟨(some 26), .move (.t 10), none⟩,
          ⟨(some 27), .move (.t 8), none⟩,
          ⟨(some 28), .move (.t 3), none⟩,
          ⟨(some 29), .call f_slices_siftDownCmpFunc_LValue [(.t 24), (.t 25), (.t 26), (.t 27), (.t 28)], none⟩]))
      (.region [
        ⟨(some 22), .move (.t 11), none⟩,
        ⟨(some 23), .bin .sub (.t 22) (.c (.int .i64 1)), none⟩,
        ⟨(some 11), .move (.t 23), none⟩]))))))
  (.seq
  (.region [
    ⟨(some 30), .move (.t 10), none⟩,
    ⟨(some 31), .bin .sub (.t 30) (.c (.int .i64 1)), none⟩,
    ⟨(some 12), .move (.t 31), none⟩])
  (.block 2
    (.loop
      (.seq
      (.seq
      (.region [
        ⟨(some 32), .move (.t 12), none⟩,
        ⟨(some 33), .bin .geq (.t 32) (.c (.int .i64 0)), none⟩])
      (.cond (.t 33)
        .skip
        (.exit 2)))
      (.seq
      (.block 3
        (.seq
        (.draw [
          (⟨(some 36), .move (.t 0), none⟩, []),
          (⟨(some 37), .move (.t 8), none⟩, []),
          (⟨(some 38), .move (.t 0), none⟩, []),
          (⟨(some 39), .move (.t 8), none⟩, []),
          (⟨(some 40), .move (.t 12), none⟩, []),
          (⟨(some 41), .bin .add (.t 39) (.t 40), none⟩, []),
          (⟨(some 42), .move (.t 0), none⟩, []),
          (⟨(some 43), .move (.t 8), none⟩, []),
          (⟨(some 44), .move (.t 12), none⟩, []),
          (⟨(some 45), .bin .add (.t 43) (.t 44), none⟩, []),
          (⟨(some 46), .indexAddr 1 (.t 42) (.t 45), none⟩, []),
          (⟨(some 47), .load false 1 (.t 46), none⟩, []),
          (⟨(some 48), .move (.t 0), none⟩, []),
          (⟨(some 49), .move (.t 8), none⟩, []),
          (⟨(some 50), .indexAddr 1 (.t 48) (.t 49), none⟩, []),
          (⟨(some 51), .load false 1 (.t 50), none⟩, []),
          (⟨(some 52), .indexAddr 1 (.t 36) (.t 37), none⟩, []),
          (⟨none, .store 1 (.t 52) (.t 47), none⟩, []),
          (⟨(some 53), .indexAddr 1 (.t 38) (.t 41), none⟩, []),
          (⟨none, .store 1 (.t 53) (.t 51), none⟩, [])])
        (.region [
          ⟨(some 54), .move (.t 0), none⟩,
          ⟨(some 55), .move (.t 9), none⟩,
          ⟨(some 56), .move (.t 12), none⟩,
          ⟨(some 57), .move (.t 8), none⟩,
          ⟨(some 58), .move (.t 3), none⟩,
          ⟨(some 59), .call f_slices_siftDownCmpFunc_LValue [(.t 54), (.t 55), (.t 56), (.t 57), (.t 58)], none⟩])))
      (.region [
        ⟨(some 34), .move (.t 12), none⟩,
        ⟨(some 35), .bin .sub (.t 34) (.c (.int .i64 1)), none⟩,
        ⟨(some 12), .move (.t 35), none⟩]))))))))))⟩

structure F_slices_heapSortCmpFunc_LValue (P : Program) where
  id : FuncId
  slices_siftDownCmpFunc_LValue : F_slices_siftDownCmpFunc_LValue P
  has : Has P id [] (c_slices_heapSortCmpFunc_LValue slices_siftDownCmpFunc_LValue.id)

def c_slices_breakPatternsCmpFunc_LValue (f_slices_nextPowerOfTwo : FuncId) (f_slices_xorshift_Next : FuncId) : AFunc := ⟨67, [],
  (.seq
  (.region [
    ⟨(some 13), .move (.t 2), none⟩,
    ⟨(some 14), .move (.t 1), none⟩,
    ⟨(some 15), .bin .sub (.t 13) (.t 14), none⟩,
    ⟨(some 8), .move (.t 15), none⟩])
  (.seq
  (.region [
    ⟨(some 16), .move (.t 8), none⟩,
    ⟨(some 17), .bin .geq (.t 16) (.c (.int .i64 8)), none⟩])
  (.cond (.t 17)
    (.seq
    (.region [
      ⟨(some 18), .move (.t 8), none⟩,
      ⟨(some 19), .conv .u64 (.t 18), none⟩,
      ⟨(some 9), .alloc [(.int .u64 0)], none⟩,
      ⟨none, .store 1 (.t 9) (.t 19), none⟩])
    (.seq
    (.region [
      ⟨(some 20), .move (.t 8), none⟩,
      ⟨(some 21), .call f_slices_nextPowerOfTwo [(.t 20)], none⟩,
      ⟨(some 10), .move (.t 21), none⟩])
    (.seq
    (.region [
      ⟨(some 22), .move (.t 1), none⟩,
      ⟨(some 23), .move (.t 8), none⟩,
      ⟨(some 24), .bin .quo (.t 23) (.c (.int .i64 4)), none⟩,
      ⟨(some 25), .bin .mul (.t 24) (.c (.int .i64 2)), none⟩,
      ⟨(some 26), .bin .add (.t 22) (.t 25), none⟩,
      ⟨(some 27), .bin .sub (.t 26) (.c (.int .i64 1)), none⟩,
      ⟨(some 11), .move (.t 27), none⟩])
    (.block 0
      (.loop
        (.seq
        (.seq
        (.region [
          ⟨(some 28), .move (.t 11), none⟩,
          ⟨(some 29), .move (.t 1), none⟩,
          ⟨(some 30), .move (.t 8), none⟩,
          ⟨(some 31), .bin .quo (.t 30) (.c (.int .i64 4)), none⟩,
          ⟨(some 32), .bin .mul (.t 31) (.c (.int .i64 2)), none⟩,
          ⟨(some 33), .bin .add (.t 29) (.t 32), none⟩,
          ⟨(some 34), .bin .add (.t 33) (.c (.int .i64 1)), none⟩,
          ⟨(some 35), .bin .leq (.t 28) (.t 34), none⟩])
        (.cond (.t 35)
          .skip
          (.exit 0)))
        (.seq
        (.block 1
          (.seq
          (.region [
            ⟨(some 38), .call f_slices_xorshift_Next [(.t 9)], none⟩,
            ⟨(some 39), .move (.t 10), none⟩,
            ⟨(some 40), .bin .sub (.t 39) (.c (.int .u64 1)), none⟩,
            ⟨(some 41), .bin .and (.t 38) (.t 40), none⟩,
            ⟨(some 42), .conv .i64 (.t 41), none⟩,
            ⟨(some 12), .move (.t 42), none⟩])
          (.seq
          (.seq
          (.region [
            ⟨(some 43), .move (.t 12), none⟩,
            ⟨(some 44), .move (.t 8), none⟩,
            ⟨(some 45), .bin .geq (.t 43) (.t 44), none⟩])
          (.cond (.t 45)
            (.region [
              ⟨(some 46), .move (.t 12), none⟩,
              ⟨(some 47), .move (.t 8), none⟩,
              ⟨(some 48), .bin .sub (.t 46) (.t 47), none⟩,
              ⟨(some 12), .move (.t 48), none⟩])
            .skip))
          (.draw [
            (⟨(some 49), .move (.t 0), none⟩, []),
            (⟨(some 50), .move (.t 11), none⟩, []),
            (⟨(some 51), .move (.t 0), none⟩, []),
            (⟨(some 52), .move (.t 1), none⟩, []),
            (⟨(some 53), .move (.t 12), none⟩, []),
            (⟨(some 54), .bin .add (.t 52) (.t 53), none⟩, []),
            (⟨(some 55), .move (.t 0), none⟩, []),
            (⟨(some 56), .move (.t 1), none⟩, []),
            (⟨(some 57), .move (.t 12), none⟩, []),
            (⟨(some 58), .bin .add (.t 56) (.t 57), none⟩, []),
            (⟨(some 59), .indexAddr 1 (.t 55) (.t 58), none⟩, []),
            (⟨(some 60), .load false 1 (.t 59), none⟩, []),
            (⟨(some 61), .move (.t 0), none⟩, []),
            (⟨(some 62), .move (.t 11), none⟩, []),
            (⟨(some 63), .indexAddr 1 (.t 61) (.t 62), none⟩, []),
            (⟨(some 64), .load false 1 (.t 63), none⟩, []),
            (⟨(some 65), .indexAddr 1 (.t 49) (.t 50), none⟩, []),
            (⟨none, .store 1 (.t 65) (.t 60), none⟩, []),
            (⟨(some 66), .indexAddr 1 (.t 51) (.t 54), none⟩, []),
            (⟨none, .store 1 (.t 66) (.t 64), none⟩, [])]))))
        (.region [
          ⟨(some 36), .move (.t 11), none⟩,
          ⟨(some 37), .bin .add (.t 36) (.c (.int .i64 1)), none⟩,
          ⟨(some 11), .move (.t 37), none⟩]))))))))
    .skip)))⟩

structure F_slices_breakPatternsCmpFunc_LValue (P : Program) where
  id : FuncId
  slices_nextPowerOfTwo : F_slices_nextPowerOfTwo P
  slices_xorshift_Next : F_slices_xorshift_Next P
  has : Has P id [] (c_slices_breakPatternsCmpFunc_LValue slices_nextPowerOfTwo.id slices_xorshift_Next.id)

def c_slices_order2CmpFunc_LValue : AFunc := ⟨32, [.tmp 10, .tmp 11],
  (.seq
  (.region [
    ⟨(some 10), .move (.c (.int .i64 0)), none⟩,
    ⟨(some 11), .move (.c (.int .i64 0)), none⟩])
  (.seq
  (.seq
  (.draw [
    (⟨(some 12), .move (.t 4), none⟩, []),
    (⟨(some 13), .move (.t 0), none⟩, []),
    (⟨(some 14), .move (.t 2), none⟩, []),
    (⟨(some 15), .indexAddr 1 (.t 13) (.t 14), none⟩, []),
    (⟨(some 16), .load false 1 (.t 15), none⟩, []),
    (⟨(some 17), .move (.t 0), none⟩, []),
    (⟨(some 18), .move (.t 1), none⟩, []),
    (⟨(some 19), .indexAddr 1 (.t 17) (.t 18), none⟩, []),
    (⟨(some 20), .load false 1 (.t 19), none⟩, []),
    (⟨(some 21), .callv (.t 12) [(.t 16), (.t 20)], none⟩, []),
    (⟨(some 22), .bin .lss (.t 21) (.c (.int .i64 0)), none⟩, [])])
  (.cond (.t 22)
    (.seq
    (.region [
      ⟨(some 23), .move (.t 3), none⟩,
      ⟨(some 24), .nop (.t 23), none⟩,
      ⟨(some 25), .load false 1 (.t 24), none⟩,
      ⟨(some 26), .bin .add (.t 25) (.c (.int .i64 1)), none⟩,
      ⟨(some 27), .nop (.t 23), none⟩,
      ⟨none, .store 1 (.t 27) (.t 26), none⟩])
    (.seq
    (.region [
      ⟨(some 28), .move (.t 2), none⟩,
      ⟨(some 29), .move (.t 1), none⟩,
      ⟨(some 10), .move (.t 28), none⟩,
      ⟨(some 11), .move (.t 29), none⟩])
    .ret))
    .skip))
  (.seq
  (.region [
    ⟨(some 30), .move (.t 1), none⟩,
    ⟨(some 31), .move (.t 2), none⟩,
    ⟨(some 10), .move (.t 30), none⟩,
    ⟨(some 11), .move (.t 31), none⟩])
  .ret)))⟩

structure F_slices_order2CmpFunc_LValue (P : Program) where
  id : FuncId
  has : Has P id [] c_slices_order2CmpFunc_LValue

def c_slices_medianCmpFunc_LValue (f_slices_order2CmpFunc_LValue : FuncId) : AFunc := ⟨41, [.tmp 12],
  (.seq
  (.region [
    ⟨(some 12), .move (.c (.int .i64 0)), none⟩])
  (.seq
  (.region [
    ⟨(some 14), .move (.t 0), none⟩,
    ⟨(some 15), .move (.t 1), none⟩,
    ⟨(some 16), .move (.t 2), none⟩,
    ⟨(some 17), .move (.t 4), none⟩,
    ⟨(some 18), .move (.t 5), none⟩,
    ⟨(some 19), .call f_slices_order2CmpFunc_LValue [(.t 14), (.t 15), (.t 16), (.t 17), (.t 18)], none⟩,
    ⟨(some 13), .move (.t 19), none⟩,
    ⟨(some 20), .extract (.t 13) 0, none⟩,
    ⟨(some 21), .extract (.t 13) 1, none⟩,
    ⟨(some 1), .move (.t 20), none⟩,
    ⟨(some 2), .move (.t 21), none⟩])
  (.seq
  (.region [
    ⟨(some 23), .move (.t 0), none⟩,
    ⟨(some 24), .move (.t 2), none⟩,
    ⟨(some 25), .move (.t 3), none⟩,
    ⟨(some 26), .move (.t 4), none⟩,
    ⟨(some 27), .move (.t 5), none⟩,
    ⟨(some 28), .call f_slices_order2CmpFunc_LValue [(.t 23), (.t 24), (.t 25), (.t 26), (.t 27)], none⟩,
    ⟨(some 22), .move (.t 28), none⟩,
    ⟨(some 29), .extract (.t 22) 0, none⟩,
    ⟨(some 30), .extract (.t 22) 1, none⟩,
    ⟨(some 2), .move (.t 29), none⟩,
    ⟨(some 3), .move (.t 30), none⟩])
  (.seq
  (.region [
    ⟨(some 32), .move (.t 0), none⟩,
    ⟨(some 33), .move (.t 1), none⟩,
    ⟨(some 34), .move (.t 2), none⟩,
    ⟨(some 35), .move (.t 4), none⟩,
    ⟨(some 36), .move (.t 5), none⟩,
    ⟨(some 37), .call f_slices_order2CmpFunc_LValue [(.t 32), (.t 33), (.t 34), (.t 35), (.t 36)], none⟩,
    ⟨(some 31), .move (.t 37), none⟩,
    ⟨(some 38), .extract (.t 31) 0, none⟩,
    ⟨(some 39), .extract (.t 31) 1, none⟩,
    ⟨(some 1), .move (.t 38), none⟩,
    ⟨(some 2), .move (.t 39), none⟩])
  (.seq
  (.region [
    ⟨(some 40), .move (.t 2), none⟩,
    ⟨(some 12), .move (.t 40), none⟩])
  .ret)))))⟩

structure F_slices_medianCmpFunc_LValue (P : Program) where
  id : FuncId
  slices_order2CmpFunc_LValue : F_slices_order2CmpFunc_LValue P
  has : Has P id [] (c_slices_medianCmpFunc_LValue slices_order2CmpFunc_LValue.id)

def c_slices_medianAdjacentCmpFunc_LValue (f_slices_medianCmpFunc_LValue : FuncId) : AFunc := ⟨18, [.tmp 8],
  (.seq
  (.region [
    ⟨(some 8), .move (.c (.int .i64 0)), none⟩])
  (.seq
  (.region [
    ⟨(some 9), .move (.t 0), none⟩,
    ⟨(some 10), .move (.t 1), none⟩,
    ⟨(some 11), .bin .sub (.t 10) (.c (.int .i64 1)), none⟩,
    ⟨(some 12), .move (.t 1), none⟩,
    ⟨(some 13), .move (.t 1), none⟩,
    ⟨(some 14), .bin .add (.t 13) (.c (.int .i64 1)), none⟩,
    ⟨(some 15), .move (.t 2), none⟩,
    ⟨(some 16), .move (.t 3), none⟩,
    ⟨(some 17), .call f_slices_medianCmpFunc_LValue [(.t 9), (.t 11), (.t 12), (.t 14), (.t 15), (.t 16)], none⟩,
    ⟨(some 8), .move (.t 17), none⟩])
  .ret))⟩

structure F_slices_medianAdjacentCmpFunc_LValue (P : Program) where
  id : FuncId
  slices_medianCmpFunc_LValue : F_slices_medianCmpFunc_LValue P
  has : Has P id [] (c_slices_medianAdjacentCmpFunc_LValue slices_medianCmpFunc_LValue.id)

def c_slices_choosePivotCmpFunc_LValue (f_slices_medianAdjacentCmpFunc_LValue : FuncId) (f_slices_medianCmpFunc_LValue : FuncId) : AFunc := ⟨63, [.tmp 8, .tmp 9],
  (.seq
  (.region [
    ⟨(some 8), .move (.c (.int .i64 0)), none⟩,
    ⟨(some 9), .move (.c (.int .i64 0)), none⟩])
  (.seq
  (.region [
    ⟨(some 15), .move (.t 2), none⟩,
    ⟨(some 16), .move (.t 1), none⟩,
    ⟨(some 17), .bin .sub (.t 15) (.t 16), none⟩,
    ⟨(some 10), .move (.t 17), none⟩])
  (.seq
  (.region [
    ⟨(some 11), .alloc [(.int .i64 0)], none⟩])
  (.seq
  (.region [
    ⟨(some 18), .move (.t 1), none⟩,
    ⟨(some 19), .move (.t 10), none⟩,
    ⟨(some 20), .bin .quo (.t 19) (.c (.int .i64 4)), none⟩,
    ⟨(some 21), .bin .mul (.t 20) (.c (.int .i64 1)), none⟩,
    ⟨(some 22), .bin .add (.t 18) (.t 21), none⟩,
    ⟨(some 12), .move (.t 22), none⟩])
  (.seq
  (.region [
    ⟨(some 23), .move (.t 1), none⟩,
    ⟨(some 24), .move (.t 10), none⟩,
    ⟨(some 25), .bin .quo (.t 24) (.c (.int .i64 4)), none⟩,
    ⟨(some 26), .bin .mul (.t 25) (.c (.int .i64 2)), none⟩,
    ⟨(some 27), .bin .add (.t 23) (.t 26), none⟩,
    ⟨(some 13), .move (.t 27), none⟩])
  (.seq
  (.region [
    ⟨(some 28), .move (.t 1), none⟩,
    ⟨(some 29), .move (.t 10), none⟩,
    ⟨(some 30), .bin .quo (.t 29) (.c (.int .i64 4)), none⟩,
    ⟨(some 31), .bin .mul (.t 30) (.c (.int .i64 3)), none⟩,
    ⟨(some 32), .bin .add (.t 28) (.t 31), none⟩,
    ⟨(some 14), .move (.t 32), none⟩])
  (.seq
  (.seq
  (.region [
    ⟨(some 33), .move (.t 10), none⟩,
    ⟨(some 34), .bin .geq (.t 33) (.c (.int .i64 8)), none⟩])
  (.cond (.t 34)
    (.seq
    (.seq
    (.region [
      ⟨(some 35), .move (.t 10), none⟩,
      ⟨(some 36), .bin .geq (.t 35) (.c (.int .i64 50)), none⟩])
    (.cond (.t 36)
      (.seq
      (.region [
        ⟨(some 37), .move (.t 0), none⟩,
        ⟨(some 38), .move (.t 12), none⟩,
        ⟨(some 39), .move (.t 3), none⟩,
        ⟨(some 40), .call f_slices_medianAdjacentCmpFunc_LValue [(.t 37), (.t 38), (.t 11), (.t 39)], none⟩,
        ⟨(some 12), .move (.t 40), none⟩])
      (.seq
      (.region [
        ⟨(some 41), .move (.t 0), none⟩,
        ⟨(some 42), .move (.t 13), none⟩,
        ⟨(some 43), .move (.t 3), none⟩,
        ⟨(some 44), .call f_slices_medianAdjacentCmpFunc_LValue [(.t 41), (.t 42), (.t 11), (.t 43)], none⟩,
        ⟨(some 13), .move (.t 44), none⟩])
      (.region [
        ⟨(some 45), .move (.t 0), none⟩,
        ⟨(some 46), .move (.t 14), none⟩,
        ⟨(some 47), .move (.t 3), none⟩,
        ⟨(some 48), .call f_slices_medianAdjacentCmpFunc_LValue [(.t 45), (.t 46), (.t 11), (.t 47)], none⟩,
        ⟨(some 14), .move (.t 48), none⟩])))
      .skip))
    (.region [
      ⟨(some 49), .move (.t 0), none⟩,
      ⟨(some 50), .move (.t 12), none⟩,
      ⟨(some 51), .move (.t 13), none⟩,
      ⟨(some 52), .move (.t 14), none⟩,
      ⟨(some 53), .move (.t 3), none⟩,
      ⟨(some 54), .call f_slices_medianCmpFunc_LValue [(.t 49), (.t 50), (.t 51), (.t 52), (.t 11), (.t 53)], none⟩,
      ⟨(some 13), .move (.t 54), none⟩]))
    .skip))
  (.seq
  (.region [
    ⟨(some 55), .load false 1 (.t 11), none⟩])
  (.block 0
    (.seq
    (.region [
      ⟨(some 58), .bin .eql (.t 55) (.c (.int .i64 0)), none⟩,
      ⟨(some 57), .move (.t 58), none⟩])
    (.cond (.t 57)
      (.seq
      (.region [
        ⟨(some 59), .move (.t 13), none⟩,
        ⟨(some 8), .move (.t 59), none⟩,
        ⟨(some 9), .move (.c (.int .i64 1)), none⟩])
      .ret)
      (.seq
      (.region [
        ⟨(some 61), .bin .eql (.t 55) (.c (.int .i64 12)), none⟩,
        ⟨(some 60), .move (.t 61), none⟩])
      (.cond (.t 60)
        (.seq
        (.region [
          ⟨(some 62), .move (.t 13), none⟩,
          ⟨(some 8), .move (.t 62), none⟩,
          ⟨(some 9), .move (.c (.int .i64 2)), none⟩])
        .ret)
        (.seq
        (.region [
          ⟨(some 56), .move (.t 13), none⟩,
          ⟨(some 8), .move (.t 56), none⟩,
          ⟨(some 9), .move (.c (.int .i64 0)), none⟩])
        .ret))))))))))))))⟩

structure F_slices_choosePivotCmpFunc_LValue (P : Program) where
  id : FuncId
  slices_medianAdjacentCmpFunc_LValue : F_slices_medianAdjacentCmpFunc_LValue P
  slices_medianCmpFunc_LValue : F_slices_medianCmpFunc_LValue P
  has : Has P id [] (c_slices_choosePivotCmpFunc_LValue slices_medianAdjacentCmpFunc_LValue.id slices_medianCmpFunc_LValue.id)

def c_slices_reverseRangeCmpFunc_LValue : AFunc := ⟨34, [],
  (.seq
  (.region [
    ⟨(some 10), .move (.t 1), none⟩,
    ⟨(some 8), .move (.t 10), none⟩])
  (.seq
  (.region [
    ⟨(some 11), .move (.t 2), none⟩,
    ⟨(some 12), .bin .sub (.t 11) (.c (.int .i64 1)), none⟩,
    ⟨(some 9), .move (.t 12), none⟩])
  (.block 0
    (.loop
      (.seq
      (.seq
      (.region [
        ⟨(some 13), .move (.t 8), none⟩,
        ⟨(some 14), .move (.t 9), none⟩,
        ⟨(some 15), .bin .lss (.t 13) (.t 14), none⟩])
      (.cond (.t 15)
        .skip
        (.exit 0)))
      (.block 1
        (.seq
        (.draw [
          (⟨(some 16), .move (.t 0), none⟩, []),
          (⟨(some 17), .move (.t 8), none⟩, []),
          (⟨(some 18), .move (.t 0), none⟩, []),
          (⟨(some 19), .move (.t 9), none⟩, []),
          (⟨(some 20), .move (.t 0), none⟩, []),
          (⟨(some 21), .move (.t 9), none⟩, []),
          (⟨(some 22), .indexAddr 1 (.t 20) (.t 21), none⟩, []),
          (⟨(some 23), .load false 1 (.t 22), none⟩, []),
          (⟨(some 24), .move (.t 0), none⟩, []),
          (⟨(some 25), .move (.t 8), none⟩, []),
          (⟨(some 26), .indexAddr 1 (.t 24) (.t 25), none⟩, []),
          (⟨(some 27), .load false 1 (.t 26), none⟩, []),
          (⟨(some 28), .indexAddr 1 (.t 16) (.t 17), none⟩, []),
          (⟨none, .store 1 (.t 28) (.t 23), none⟩, []),
          (⟨(some 29), .indexAddr 1 (.t 18) (.t 19), none⟩, []),
          (⟨none, .store 1 (.t 29) (.t 27), none⟩, [])])
        (.seq
        (.region [
          ⟨(some 30), .move (.t 8), none⟩,
          ⟨(some 31), .bin .add (.t 30) (.c (.int .i64 1)), none⟩,
          ⟨(some 8), .move (.t 31), none⟩])
        (.region [
          ⟨(some 32), .move (.t 9), none⟩,
          ⟨(some 33), .bin .sub (.t 32) (.c (.int .i64 1)), none⟩,
          ⟨(some 9), .move (.t 33), none⟩])))))))))⟩

structure F_slices_reverseRangeCmpFunc_LValue (P : Program) where
  id : FuncId
  has : Has P id [] c_slices_reverseRangeCmpFunc_LValue

def c_slices_partialInsertionSortCmpFunc_LValue : AFunc := ⟨141, [.tmp 8],
  (.seq
  (.region [
    ⟨(some 8), .move (.c (.bool false)), none⟩])
  (.seq
  (.region [
    ⟨(some 13), .move (.t 1), none⟩,
    ⟨(some 14), .bin .add (.t 13) (.c (.int .i64 1)), none⟩,
    ⟨(some 9), .move (.t 14), none⟩])
  (.seq
  (.seq
  (.region [
    ⟨(some 10), .move (.c (.int .i64 0)), none⟩])
  (.block 0
    (.loop
      (.seq
      (.seq
      (.region [
        ⟨(some 15), .move (.t 10), none⟩,
        ⟨(some 16), .bin .lss (.t 15) (.c (.int .i64 5)), none⟩])
      (.cond (.t 16)
        .skip
        (.exit 0)))
      (.seq
      (.block 1
        (.seq
        (.block 2
          (.loop
            (.seq
            (.seq
            (.draw [
              (⟨(some 19), .move (.t 9), none⟩, []),
              (⟨(some 20), .move (.t 2), none⟩, []),
              (⟨(some 21), .bin .lss (.t 19) (.t 20), none⟩, []),
              (⟨(some 22), .move (.t 21), none⟩, []),
              (⟨(some 23), .move (.t 3), some (some 22, true)⟩, []),
              (⟨(some 24), .move (.t 0), some (some 22, true)⟩, []),
              (⟨(some 25), .move (.t 9), some (some 22, true)⟩, []),
              (⟨(some 26), .indexAddr 1 (.t 24) (.t 25), some (some 22, true)⟩, []),
              (⟨(some 27), .load false 1 (.t 26), some (some 22, true)⟩, []),
              (⟨(some 28), .move (.t 0), some (some 22, true)⟩, []),
              (⟨(some 29), .move (.t 9), some (some 22, true)⟩, []),
              (⟨(some 30), .bin .sub (.t 29) (.c (.int .i64 1)), some (some 22, true)⟩, []),
              (⟨(some 31), .indexAddr 1 (.t 28) (.t 30), some (some 22, true)⟩, []),
              (⟨(some 32), .load false 1 (.t 31), some (some 22, true)⟩, []),
              (⟨(some 33), .callv (.t 23) [(.t 27), (.t 32)], some (some 22, true)⟩, []),
              (⟨(some 34), .bin .lss (.t 33) (.c (.int .i64 0)), some (some 22, true)⟩, []),
              (⟨(some 35), .un .not (.t 34), some (some 22, true)⟩, []),
              (⟨(some 36), .pick (.t 22) (.t 35) (.c (.bool false)), none⟩, [])])
            (.cond (.t 36)
              .skip
              (.exit 2)))
            (.block 3
              (.region [
                ⟨(some 37), .move (.t 9), none⟩,
                ⟨(some 38), .bin .add (.t 37) (.c (.int .i64 1)), none⟩,
                ⟨(some 9), .move (.t 38), none⟩])))))
        (.seq
        (.seq
        (.region [
          ⟨(some 39), .move (.t 9), none⟩,
          ⟨(some 40), .move (.t 2), none⟩,
          ⟨(some 41), .bin .eql (.t 39) (.t 40), none⟩])
        (.cond (.t 41)
          (.seq
          (.region [
            ⟨(some 8), .move (.c (.bool true)), none⟩])
          .ret)
          .skip))
        (.seq
        (.seq
        (.region [
          ⟨(some 42), .move (.t 2), none⟩,
          ⟨(some 43), .move (.t 1), none⟩,
          ⟨(some 44), .bin .sub (.t 42) (.t 43), none⟩,
          ⟨(some 45), .bin .lss (.t 44) (.c (.int .i64 50)), none⟩])
        (.cond (.t 45)
          (.seq
          (.region [
            ⟨(some 8), .move (.c (.bool false)), none⟩])
          .ret)
          .skip))
        (.seq
        (.draw [
          (⟨(some 46), .move (.t 0), none⟩, []),
          (⟨(some 47), .move (.t 9), none⟩, []),
          (⟨(some 48), .move (.t 0), none⟩, []),
          (⟨(some 49), .move (.t 9), none⟩, []),
          (⟨(some 50), .bin .sub (.t 49) (.c (.int .i64 1)), none⟩, []),
          (⟨(some 51), .move (.t 0), none⟩, []),
          (⟨(some 52), .move (.t 9), none⟩, []),
          (⟨(some 53), .bin .sub (.t 52) (.c (.int .i64 1)), none⟩, []),
          (⟨(some 54), .indexAddr 1 (.t 51) (.t 53), none⟩, []),
          (⟨(some 55), .load false 1 (.t 54), none⟩, []),
          (⟨(some 56), .move (.t 0), none⟩, []),
          (⟨(some 57), .move (.t 9), none⟩, []),
          (⟨(some 58), .indexAddr 1 (.t 56) (.t 57), none⟩, []),
          (⟨(some 59), .load false 1 (.t 58), none⟩, []),
          (⟨(some 60), .indexAddr 1 (.t 46) (.t 47), none⟩, []),
          (⟨none, .store 1 (.t 60) (.t 55), none⟩, []),
          (⟨(some 61), .indexAddr 1 (.t 48) (.t 50), none⟩, []),
          (⟨none, .store 1 (.t 61) (.t 59), none⟩, [])])
        (.seq
        (.seq
        (.region [
          ⟨(some 62), .move (.t 9), none⟩,
          ⟨(some 63), .move (.t 1), none⟩,
          ⟨(some 64), .bin .sub (.t 62) (.t 63), none⟩,
          ⟨(some 65), .bin .geq (.t 64) (.c (.int .i64 2)), none⟩])
        (.cond (.t 65)
          (.seq
          (.region [
            ⟨(some 66), .move (.t 9), none⟩,
            ⟨(some 67), .bin .sub (.t 66) (.c (.int .i64 1)), none⟩,
            ⟨(some 11), .move (.t 67), none⟩])
          (.block 4
            (.loop
              (.seq
              (.seq
              (.region [
                ⟨(some 68), .move (.t 11), none⟩,
                ⟨(some 69), .bin .geq (.t 68) (.c (.int .i64 1)), none⟩])
              (.cond (.t 69)
                .skip
                (.exit 4)))
              (.seq
              (.block 5
                (.seq
                (.seq
                (.draw [
                  (⟨(some 72), .move (.t 3), none⟩, []),
                  (⟨(some 73), .move (.t 0), none⟩, []),
                  (⟨(some 74), .move (.t 11), none⟩, []),
                  (⟨(some 75), .indexAddr 1 (.t 73) (.t 74), none⟩, []),
                  (⟨(some 76), .load false 1 (.t 75), none⟩, []),
                  (⟨(some 77), .move (.t 0), none⟩, []),
                  (⟨(some 78), .move (.t 11), none⟩, []),
                  (⟨(some 79), .bin .sub (.t 78) (.c (.int .i64 1)), none⟩, []),
                  (⟨(some 80), .indexAddr 1 (.t 77) (.t 79), none⟩, []),
                  (⟨(some 81), .load false 1 (.t 80), none⟩, []),
                  (⟨(some 82), .callv (.t 72) [(.t 76), (.t 81)], none⟩, []),
                  (⟨(some 83), .bin .lss (.t 82) (.c (.int .i64 0)), none⟩, []),
                  (⟨(some 84), .un .not (.t 83), none⟩, [])])
                (.cond (.t 84)
                  (.exit 4)
                  .skip))
                (.draw [
                  (⟨(some 85), .move (.t 0), none⟩, []),
                  (⟨(some 86), .move (.t 11), none⟩, []),
                  (⟨(some 87), .move (.t 0), none⟩, []),
                  (⟨(some 88), .move (.t 11), none⟩, []),
                  (⟨(some 89), .bin .sub (.t 88) (.c (.int .i64 1)), none⟩, []),
                  (⟨(some 90), .move (.t 0), none⟩, []),
                  (⟨(some 91), .move (.t 11), none⟩, []),
                  (⟨(some 92), .bin .sub (.t 91) (.c (.int .i64 1)), none⟩, []),
                  (⟨(some 93), .indexAddr 1 (.t 90) (.t 92), none⟩, []),
                  (⟨(some 94), .load false 1 (.t 93), none⟩, []),
                  (⟨(some 95), .move (.t 0), none⟩, []),
                  (⟨(some 96), .move (.t 11), none⟩, []),
                  (⟨(some 97), .indexAddr 1 (.t 95) (.t 96), none⟩, []),
                  (⟨(some 98), .load false 1 (.t 97), none⟩, []),
                  (⟨(some 99), .indexAddr 1 (.t 85) (.t 86), none⟩, []),
                  (⟨none, .store 1 (.t 99) (.t 94), none⟩, []),
                  (⟨(some 100), .indexAddr 1 (.t 87) (.t 89), none⟩, []),
                  (⟨none, .store 1 (.t 100) (.t 98), none⟩, [])])))
              (.region [
                ⟨(some 70), .move (.t 11), none⟩,
                ⟨(some 71), .bin .sub (.t 70) (.c (.int .i64 1)), none⟩,
                ⟨(some 11), .move (.t 71), none⟩]))))))
          .skip))
        (.seq
        (.region [
          ⟨(some 101), .move (.t 2), none⟩,
          ⟨(some 102), .move (.t 9), none⟩,
          ⟨(some 103), .bin .sub (.t 101) (.t 102), none⟩,
          ⟨(some 104), .bin .geq (.t 103) (.c (.int .i64 2)), none⟩])
        (.cond (.t 104)
          (.seq
          (.region [
            ⟨(some 105), .move (.t 9), none⟩,
            ⟨(some 106), .bin .add (.t 105) (.c (.int .i64 1)), none⟩,
            ⟨(some 12), .move (.t 106), none⟩])
          (.block 6
            (.loop
              (.seq
              (.seq
              (.region [
                ⟨(some 107), .move (.t 12), none⟩,
                ⟨(some 108), .move (.t 2), none⟩,
                ⟨(some 109), .bin .lss (.t 107) (.t 108), none⟩])
              (.cond (.t 109)
                .skip
                (.exit 6)))
              (.seq
              (.block 7
                (.seq
                (.seq
                (.draw [
                  (⟨(some 112), .move (.t 3), none⟩, []),
                  (⟨(some 113), .move (.t 0), none⟩, []),
                  (⟨(some 114), .move (.t 12), none⟩, []),
                  (⟨(some 115), .indexAddr 1 (.t 113) (.t 114), none⟩, []),
                  (⟨(some 116), .load false 1 (.t 115), none⟩, []),
                  (⟨(some 117), .move (.t 0), none⟩, []),
                  (⟨(some 118), .move (.t 12), none⟩, []),
                  (⟨(some 119), .bin .sub (.t 118) (.c (.int .i64 1)), none⟩, []),
                  (⟨(some 120), .indexAddr 1 (.t 117) (.t 119), none⟩, []),
                  (⟨(some 121), .load false 1 (.t 120), none⟩, []),
                  (⟨(some 122), .callv (.t 112) [(.t 116), (.t 121)], none⟩, []),
                  (⟨(some 123), .bin .lss (.t 122) (.c (.int .i64 0)), none⟩, []),
                  (⟨(some 124), .un .not (.t 123), none⟩, [])])
                (.cond (.t 124)
                  (.exit 6)
                  .skip))
                (.draw [
                  (⟨(some 125), .move (.t 0), none⟩, []),
                  (⟨(some 126), .move (.t 12), none⟩, []),
                  (⟨(some 127), .move (.t 0), none⟩, []),
                  (⟨(some 128), .move (.t 12), none⟩, []),
                  (⟨(some 129), .bin .sub (.t 128) (.c (.int .i64 1)), none⟩, []),
                  (⟨(some 130), .move (.t 0), none⟩, []),
                  (⟨(some 131), .move (.t 12), none⟩, []),
                  (⟨(some 132), .bin .sub (.t 131) (.c (.int .i64 1)), none⟩, []),
                  (⟨(some 133), .indexAddr 1 (.t 130) (.t 132), none⟩, []),
                  (⟨(some 134), .load false 1 (.t 133), none⟩, []),
                  (⟨(some 135), .move (.t 0), none⟩, []),
                  (⟨(some 136), .move (.t 12), none⟩, []),
                  (⟨(some 137), .indexAddr 1 (.t 135) (.t 136), none⟩, []),
                  (⟨(some 138), .load false 1 (.t 137), none⟩, []),
                  (⟨(some 139), .indexAddr 1 (.t 125) (.t 126), none⟩, []),
                  (⟨none, .store 1 (.t 139) (.t 134), none⟩, []),
                  (⟨(some 140), .indexAddr 1 (.t 127) (.t 129), none⟩, []),
                  (⟨none, .store 1 (.t 140) (.t 138), none⟩, [])])))
              (.region [
                ⟨(some 110), .move (.t 12), none⟩,
                ⟨(some 111), .bin .add (.t 110) (.c (.int .i64 1)), none⟩,
                ⟨(some 12), .move (.t 111), none⟩]))))))
          .skip))))))))
      (.region [
        ⟨(some 17), .move (.t 10), none⟩,
        ⟨(some 18), .bin .add (.t 17) (.c (.int .i64 1)), none⟩,
        ⟨(some 10), .move (.t 18), none⟩]))))))
  (.seq
  (.region [
    ⟨(some 8), .move (.c (.bool false)), none⟩])
  .ret))))⟩

structure F_slices_partialInsertionSortCmpFunc_LValue (P : Program) where
  id : FuncId
  has : Has P id [] c_slices_partialInsertionSortCmpFunc_LValue

def c_slices_partitionEqualCmpFunc_LValue : AFunc := ⟨90, [.tmp 10],
  (.seq
  (.region [
    ⟨(some 10), .move (.c (.int .i64 0)), none⟩])
  (.seq
  (.draw [
    (⟨(some 13), .move (.t 0), none⟩, []),
    (⟨(some 14), .move (.t 1), none⟩, []),
    (⟨(some 15), .move (.t 0), none⟩, []),
    (⟨(some 16), .move (.t 3), none⟩, []),
    (⟨(some 17), .move (.t 0), none⟩, []),
    (⟨(some 18), .move (.t 3), none⟩, []),
    (⟨(some 19), .indexAddr 1 (.t 17) (.t 18), none⟩, []),
    (⟨(some 20), .load false 1 (.t 19), none⟩, []),
    (⟨(some 21), .move (.t 0), none⟩, []),
    (⟨(some 22), .move (.t 1), none⟩, []),
    (⟨(some 23), .indexAddr 1 (.t 21) (.t 22), none⟩, []),
    (⟨(some 24), .load false 1 (.t 23), none⟩, []),
    (⟨(some 25), .indexAddr 1 (.t 13) (.t 14), none⟩, []),
    (⟨none, .store 1 (.t 25) (.t 20), none⟩, []),
    (⟨(some 26), .indexAddr 1 (.t 15) (.t 16), none⟩, []),
    (⟨none, .store 1 (.t 26) (.t 24), none⟩, [])])
  (.seq
  (.region [
    ⟨(some 27), .move (.t 1), none⟩,
    ⟨(some 28), .bin .add (.t 27) (.c (.int .i64 1)), none⟩,
    ⟨(some 29), .move (.t 2), none⟩,
    ⟨(some 30), .bin .sub (.t 29) (.c (.int .i64 1)), none⟩,
    ⟨(some 11), .move (.t 28), none⟩,
    ⟨(some 12), .move (.t 30), none⟩])
  (.seq
  (.block 0
    (.loop
      (.block 1
        (.seq
        (.block 2
          (.loop
            (.seq
            (.seq
            (.draw [
              (⟨(some 31), .move (.t 11), none⟩, []),
              (⟨(some 32), .move (.t 12), none⟩, []),
              (⟨(some 33), .bin .leq (.t 31) (.t 32), none⟩, []),
              (⟨(some 34), .move (.t 33), none⟩, []),
              (⟨(some 35), .move (.t 4), some (some 34, true)⟩, []),
              (⟨(some 36), .move (.t 0), some (some 34, true)⟩, []),
              (⟨(some 37), .move (.t 1), some (some 34, true)⟩, []),
              (⟨(some 38), .indexAddr 1 (.t 36) (.t 37), some (some 34, true)⟩, []),
              (⟨(some 39), .load false 1 (.t 38), some (some 34, true)⟩, []),
              (⟨(some 40), .move (.t 0), some (some 34, true)⟩, []),
              (⟨(some 41), .move (.t 11), some (some 34, true)⟩, []),
              (⟨(some 42), .indexAddr 1 (.t 40) (.t 41), some (some 34, true)⟩, []),
              (⟨(some 43), .load false 1 (.t 42), some (some 34, true)⟩, []),
              (⟨(some 44), .callv (.t 35) [(.t 39), (.t 43)], some (some 34, true)⟩, []),
              (⟨(some 45), .bin .lss (.t 44) (.c (.int .i64 0)), some (some 34, true)⟩, []),
              (⟨(some 46), .un .not (.t 45), some (some 34, true)⟩, []),
              (⟨(some 47), .pick (.t 34) (.t 46) (.c (.bool false)), none⟩, [])])
            (.cond (.t 47)
              .skip
              (.exit 2)))
            (.block 3
              (.region [
                ⟨(some 48), .move (.t 11), none⟩,
                ⟨(some 49), .bin .add (.t 48) (.c (.int .i64 1)), none⟩,
                ⟨(some 11), .move (.t 49), none⟩])))))
        (.seq
        (.block 4
          (.loop
            (.seq
            (.seq
            (.draw [
              (⟨(some 50), .move (.t 11), none⟩, []),
              (⟨(some 51), .move (.t 12), none⟩, []),
              (⟨(some 52), .bin .leq (.t 50) (.t 51), none⟩, []),
              (⟨(some 53), .move (.t 52), none⟩, []),
              (⟨(some 54), .move (.t 4), some (some 53, true)⟩, []),
              (⟨(some 55), .move (.t 0), some (some 53, true)⟩, []),
              (⟨(some 56), .move (.t 1), some (some 53, true)⟩, []),
              (⟨(some 57), .indexAddr 1 (.t 55) (.t 56), some (some 53, true)⟩, []),
              (⟨(some 58), .load false 1 (.t 57), some (some 53, true)⟩, []),
              (⟨(some 59), .move (.t 0), some (some 53, true)⟩, []),
              (⟨(some 60), .move (.t 12), some (some 53, true)⟩, []),
              (⟨(some 61), .indexAddr 1 (.t 59) (.t 60), some (some 53, true)⟩, []),
              (⟨(some 62), .load false 1 (.t 61), some (some 53, true)⟩, []),
              (⟨(some 63), .callv (.t 54) [(.t 58), (.t 62)], some (some 53, true)⟩, []),
              (⟨(some 64), .bin .lss (.t 63) (.c (.int .i64 0)), some (some 53, true)⟩, []),
              (⟨(some 65), .pick (.t 53) (.t 64) (.c (.bool false)), none⟩, [])])
            (.cond (.t 65)
              .skip
              (.exit 4)))
            (.block 5
              (.region [
                ⟨(some 66), .move (.t 12), none⟩,
                ⟨(some 67), .bin .sub (.t 66) (.c (.int .i64 1)), none⟩,
                ⟨(some 12), .move (.t 67), none⟩])))))
        (.seq
        (.seq
        (.region [
          ⟨(some 68), .move (.t 11), none⟩,
          ⟨(some 69), .move (.t 12), none⟩,
          ⟨(some 70), .bin .gtr (.t 68) (.t 69), none⟩])
        (.cond (.t 70)
          (.exit 0)
          .skip))
        (.seq
        (.draw [
          (⟨(some 71), .move (.t 0), none⟩, []),
          (⟨(some 72), .move (.t 11), none⟩, []),
          (⟨(some 73), .move (.t 0), none⟩, []),
          (⟨(some 74), .move (.t 12), none⟩, []),
          (⟨(some 75), .move (.t 0), none⟩, []),
          (⟨(some 76), .move (.t 12), none⟩, []),
          (⟨(some 77), .indexAddr 1 (.t 75) (.t 76), none⟩, []),
          (⟨(some 78), .load false 1 (.t 77), none⟩, []),
          (⟨(some 79), .move (.t 0), none⟩, []),
          (⟨(some 80), .move (.t 11), none⟩, []),
          (⟨(some 81), .indexAddr 1 (.t 79) (.t 80), none⟩, []),
          (⟨(some 82), .load false 1 (.t 81), none⟩, []),
          (⟨(some 83), .indexAddr 1 (.t 71) (.t 72), none⟩, []),
          (⟨none, .store 1 (.t 83) (.t 78), none⟩, []),
          (⟨(some 84), .indexAddr 1 (.t 73) (.t 74), none⟩, []),
          (⟨none, .store 1 (.t 84) (.t 82), none⟩, [])])
        (.seq
        (.region [
          ⟨(some 85), .move (.t 11), none⟩,
          ⟨(some 86), .bin .add (.t 85) (.c (.int .i64 1)), none⟩,
          ⟨(some 11), .move (.t 86), none⟩])
        (.region [
          ⟨(some 87), .move (.t 12), none⟩,
          ⟨(some 88), .bin .sub (.t 87) (.c (.int .i64 1)), none⟩,
          ⟨(some 12), .move (.t 88), none⟩])))))))))
  (.seq
  (.region [
    ⟨(some 89), .move (.t 11), none⟩,
    ⟨(some 10), .move (.t 89), none⟩])
  .ret)))))⟩

structure F_slices_partitionEqualCmpFunc_LValue (P : Program) where
  id : FuncId
  has : Has P id [] c_slices_partitionEqualCmpFunc_LValue

def c_slices_partitionCmpFunc_LValue : AFunc := ⟨178, [.tmp 10, .tmp 11],
  (.seq
  (.region [
    ⟨(some 10), .move (.c (.int .i64 0)), none⟩,
    ⟨(some 11), .move (.c (.bool false)), none⟩])
  (.seq
  (.draw [
    (⟨(some 14), .move (.t 0), none⟩, []),
    (⟨(some 15), .move (.t 1), none⟩, []),
    (⟨(some 16), .move (.t 0), none⟩, []),
    (⟨(some 17), .move (.t 3), none⟩, []),
    (⟨(some 18), .move (.t 0), none⟩, []),
    (⟨(some 19), .move (.t 3), none⟩, []),
    (⟨(some 20), .indexAddr 1 (.t 18) (.t 19), none⟩, []),
    (⟨(some 21), .load false 1 (.t 20), none⟩, []),
    (⟨(some 22), .move (.t 0), none⟩, []),
    (⟨(some 23), .move (.t 1), none⟩, []),
    (⟨(some 24), .indexAddr 1 (.t 22) (.t 23), none⟩, []),
    (⟨(some 25), .load false 1 (.t 24), none⟩, []),
    (⟨(some 26), .indexAddr 1 (.t 14) (.t 15), none⟩, []),
    (⟨none, .store 1 (.t 26) (.t 21), none⟩, []),
    (⟨(some 27), .indexAddr 1 (.t 16) (.t 17), none⟩, []),
    (⟨none, .store 1 (.t 27) (.t 25), none⟩, [])])
  (.seq
  (.region [
    ⟨(some 28), .move (.t 1), none⟩,
    ⟨(some 29), .bin .add (.t 28) (.c (.int .i64 1)), none⟩,
    ⟨(some 30), .move (.t 2), none⟩,
    ⟨(some 31), .bin .sub (.t 30) (.c (.int .i64 1)), none⟩,
    ⟨(some 12), .move (.t 29), none⟩,
    ⟨(some 13), .move (.t 31), none⟩])
  (.seq
  (.block 0
    (.loop
      (.seq
      (.seq
      (.draw [
        (⟨(some 32), .move (.t 12), none⟩, []),
        (⟨(some 33), .move (.t 13), none⟩, []),
        (⟨(some 34), .bin .leq (.t 32) (.t 33), none⟩, []),
        (⟨(some 35), .move (.t 34), none⟩, []),
        (⟨(some 36), .move (.t 4), some (some 35, true)⟩, []),
        (⟨(some 37), .move (.t 0), some (some 35, true)⟩, []),
        (⟨(some 38), .move (.t 12), some (some 35, true)⟩, []),
        (⟨(some 39), .indexAddr 1 (.t 37) (.t 38), some (some 35, true)⟩, []),
        (⟨(some 40), .load false 1 (.t 39), some (some 35, true)⟩, []),
        (⟨(some 41), .move (.t 0), some (some 35, true)⟩, []),
        (⟨(some 42), .move (.t 1), some (some 35, true)⟩, []),
        (⟨(some 43), .indexAddr 1 (.t 41) (.t 42), some (some 35, true)⟩, []),
        (⟨(some 44), .load false 1 (.t 43), some (some 35, true)⟩, []),
        (⟨(some 45), .callv (.t 36) [(.t 40), (.t 44)], some (some 35, true)⟩, []),
        (⟨(some 46), .bin .lss (.t 45) (.c (.int .i64 0)), some (some 35, true)⟩, []),
        (⟨(some 47), .pick (.t 35) (.t 46) (.c (.bool false)), none⟩, [])])
      (.cond (.t 47)
        .skip
        (.exit 0)))
      (.block 1
        (.region [
          ⟨(some 48), .move (.t 12), none⟩,
          ⟨(some 49), .bin .add (.t 48) (.c (.int .i64 1)), none⟩,
          ⟨(some 12), .move (.t 49), none⟩])))))
  (.seq
  (.block 2
    (.loop
      (.seq
      (.seq
      (.draw [
        (⟨(some 50), .move (.t 12), none⟩, []),
        (⟨(some 51), .move (.t 13), none⟩, []),
        (⟨(some 52), .bin .leq (.t 50) (.t 51), none⟩, []),
        (⟨(some 53), .move (.t 52), none⟩, []),
        (⟨(some 54), .move (.t 4), some (some 53, true)⟩, []),
        (⟨(some 55), .move (.t 0), some (some 53, true)⟩, []),
        (⟨(some 56), .move (.t 13), some (some 53, true)⟩, []),
        (⟨(some 57), .indexAddr 1 (.t 55) (.t 56), some (some 53, true)⟩, []),
        (⟨(some 58), .load false 1 (.t 57), some (some 53, true)⟩, []),
        (⟨(some 59), .move (.t 0), some (some 53, true)⟩, []),
        (⟨(some 60), .move (.t 1), some (some 53, true)⟩, []),
        (⟨(some 61), .indexAddr 1 (.t 59) (.t 60), some (some 53, true)⟩, []),
        (⟨(some 62), .load false 1 (.t 61), some (some 53, true)⟩, []),
        (⟨(some 63), .callv (.t 54) [(.t 58), (.t 62)], some (some 53, true)⟩, []),
        (⟨(some 64), .bin .lss (.t 63) (.c (.int .i64 0)), some (some 53, true)⟩, []),
        (⟨(some 65), .un .not (.t 64), some (some 53, true)⟩, []),
        (⟨(some 66), .pick (.t 53) (.t 65) (.c (.bool false)), none⟩, [])])
      (.cond (.t 66)
        .skip
        (.exit 2)))
      (.block 3
        (.region [
          ⟨(some 67), .move (.t 13), none⟩,
          ⟨(some 68), .bin .sub (.t 67) (.c (.int .i64 1)), none⟩,
          ⟨(some 13), .move (.t 68), none⟩])))))
  (.seq
  (.seq
  (.region [
    ⟨(some 69), .move (.t 12), none⟩,
    ⟨(some 70), .move (.t 13), none⟩,
    ⟨(some 71), .bin .gtr (.t 69) (.t 70), none⟩])
  (.cond (.t 71)
    (.seq
    (.draw [
      (⟨(some 72), .move (.t 0), none⟩, []),
      (⟨(some 73), .move (.t 13), none⟩, []),
      (⟨(some 74), .move (.t 0), none⟩, []),
      (⟨(some 75), .move (.t 1), none⟩, []),
      (⟨(some 76), .move (.t 0), none⟩, []),
      (⟨(some 77), .move (.t 1), none⟩, []),
      (⟨(some 78), .indexAddr 1 (.t 76) (.t 77), none⟩, []),
      (⟨(some 79), .load false 1 (.t 78), none⟩, []),
      (⟨(some 80), .move (.t 0), none⟩, []),
      (⟨(some 81), .move (.t 13), none⟩, []),
      (⟨(some 82), .indexAddr 1 (.t 80) (.t 81), none⟩, []),
      (⟨(some 83), .load false 1 (.t 82), none⟩, []),
      (⟨(some 84), .indexAddr 1 (.t 72) (.t 73), none⟩, []),
      (⟨none, .store 1 (.t 84) (.t 79), none⟩, []),
      (⟨(some 85), .indexAddr 1 (.t 74) (.t 75), none⟩, []),
      (⟨none, .store 1 (.t 85) (.t 83), none⟩, [])])
    (.seq
    (.region [
      ⟨(some 86), .move (.t 13), none⟩,
      ⟨(some 10), .move (.t 86), none⟩,
      ⟨(some 11), .move (.c (.bool true)), none⟩])
    .ret))
    .skip))
  (.seq
  (.draw [
    (⟨(some 87), .move (.t 0), none⟩, []),
    (⟨(some 88), .move (.t 12), none⟩, []),
    (⟨(some 89), .move (.t 0), none⟩, []),
    (⟨(some 90), .move (.t 13), none⟩, []),
    (⟨(some 91), .move (.t 0), none⟩, []),
    (⟨(some 92), .move (.t 13), none⟩, []),
    (⟨(some 93), .indexAddr 1 (.t 91) (.t 92), none⟩, []),
    (⟨(some 94), .load false 1 (.t 93), none⟩, []),
    (⟨(some 95), .move (.t 0), none⟩, []),
    (⟨(some 96), .move (.t 12), none⟩, []),
    (⟨(some 97), .indexAddr 1 (.t 95) (.t 96), none⟩, []),
    (⟨(some 98), .load false 1 (.t 97), none⟩, []),
    (⟨(some 99), .indexAddr 1 (.t 87) (.t 88), none⟩, []),
    (⟨none, .store 1 (.t 99) (.t 94), none⟩, []),
    (⟨(some 100), .indexAddr 1 (.t 89) (.t 90), none⟩, []),
    (⟨none, .store 1 (.t 100) (.t 98), none⟩, [])])
  (.seq
  (.region [
    ⟨(some 101), .move (.t 12), none⟩,
    ⟨(some 102), .bin .add (.t 101) (.c (.int .i64 1)), none⟩,
    ⟨(some 12), .move (.t 102), none⟩])
  (.seq
  (.region [
    ⟨(some 103), .move (.t 13), none⟩,
    ⟨(some 104), .bin .sub (.t 103) (.c (.int .i64 1)), none⟩,
    ⟨(some 13), .move (.t 104), none⟩])
  (.seq
  (.block 4
    (.loop
      (.block 5
        (.seq
        (.block 6
          (.loop
            (.seq
            (.seq
            (.draw [
              (⟨(some 105), .move (.t 12), none⟩, []),
              (⟨(some 106), .move (.t 13), none⟩, []),
              (⟨(some 107), .bin .leq (.t 105) (.t 106), none⟩, []),
              (⟨(some 108), .move (.t 107), none⟩, []),
              (⟨(some 109), .move (.t 4), some (some 108, true)⟩, []),
              (⟨(some 110), .move (.t 0), some (some 108, true)⟩, []),
              (⟨(some 111), .move (.t 12), some (some 108, true)⟩, []),
              (⟨(some 112), .indexAddr 1 (.t 110) (.t 111), some (some 108, true)⟩, []),
              (⟨(some 113), .load false 1 (.t 112), some (some 108, true)⟩, []),
              (⟨(some 114), .move (.t 0), some (some 108, true)⟩, []),
              (⟨(some 115), .move (.t 1), some (some 108, true)⟩, []),
              (⟨(some 116), .indexAddr 1 (.t 114) (.t 115), some (some 108, true)⟩, []),
              (⟨(some 117), .load false 1 (.t 116), some (some 108, true)⟩, []),
              (⟨(some 118), .callv (.t 109) [(.t 113), (.t 117)], some (some 108, true)⟩, []),
              (⟨(some 119), .bin .lss (.t 118) (.c (.int .i64 0)), some (some 108, true)⟩, []),
              (⟨(some 120), .pick (.t 108) (.t 119) (.c (.bool false)), none⟩, [])])
            (.cond (.t 120)
              .skip
              (.exit 6)))
            (.block 7
              (.region [
                ⟨(some 121), .move (.t 12), none⟩,
                ⟨(some 122), .bin .add (.t 121) (.c (.int .i64 1)), none⟩,
                ⟨(some 12), .move (.t 122), none⟩])))))
        (.seq
        (.block 8
          (.loop
            (.seq
            (.seq
            (.draw [
              (⟨(some 123), .move (.t 12), none⟩, []),
              (⟨(some 124), .move (.t 13), none⟩, []),
              (⟨(some 125), .bin .leq (.t 123) (.t 124), none⟩, []),
              (⟨(some 126), .move (.t 125), none⟩, []),
              (⟨(some 127), .move (.t 4), some (some 126, true)⟩, []),
              (⟨(some 128), .move (.t 0), some (some 126, true)⟩, []),
              (⟨(some 129), .move (.t 13), some (some 126, true)⟩, []),
              (⟨(some 130), .indexAddr 1 (.t 128) (.t 129), some (some 126, true)⟩, []),
              (⟨(some 131), .load false 1 (.t 130), some (some 126, true)⟩, []),
              (⟨(some 132), .move (.t 0), some (some 126, true)⟩, []),
              (⟨(some 133), .move (.t 1), some (some 126, true)⟩, []),
              (⟨(some 134), .indexAddr 1 (.t 132) (.t 133), some (some 126, true)⟩, []),
              (⟨(some 135), .load false 1 (.t 134), some (some 126, true)⟩, []),
              (⟨(some 136), .callv (.t 127) [(.t 131), (.t 135)], some (some 126, true)⟩, []),
              (⟨(some 137), .bin .lss (.t 136) (.c (.int .i64 0)), some (some 126, true)⟩, []),
              (⟨(some 138), .un .not (.t 137), some (some 126, true)⟩, []),
              (⟨(some 139), .pick (.t 126) (.t 138) (.c (.bool false)), none⟩, [])])
            (.cond (.t 139)
              .skip
              (.exit 8)))
            (.block 9
              (.region [
                ⟨(some 140), .move (.t 13), none⟩,
                ⟨(some 141), .bin .sub (.t 140) (.c (.int .i64 1)), none⟩,
                ⟨(some 13), .move (.t 141), none⟩])))))
        (.seq
        (.seq
        (.region [
          ⟨(some 142), .move (.t 12), none⟩,
          ⟨(some 143), .move (.t 13), none⟩,
          ⟨(some 144), .bin .gtr (.t 142) (.t 143), none⟩])
        (.cond (.t 144)
          (.exit 4)
          .skip))
        (.seq
        (.draw [
          (⟨(some 145), .move (.t 0), none⟩, []),
          (⟨(some 146), .move (.t 12), none⟩, []),
          (⟨(some 147), .move (.t 0), none⟩, []),
          (⟨(some 148), .move (.t 13), none⟩, []),
          (⟨(some 149), .move (.t 0), none⟩, []),
          (⟨(some 150), .move (.t 13), none⟩, []),
          (⟨(some 151), .indexAddr 1 (.t 149) (.t 150), none⟩, []),
          (⟨(some 152), .load false 1 (.t 151), none⟩, []),
          (⟨(some 153), .move (.t 0), none⟩, []),
          (⟨(some 154), .move (.t 12), none⟩, []),
          (⟨(some 155), .indexAddr 1 (.t 153) (.t 154), none⟩, []),
          (⟨(some 156), .load false 1 (.t 155), none⟩, []),
          (⟨(some 157), .indexAddr 1 (.t 145) (.t 146), none⟩, []),
          (⟨none, .store 1 (.t 157) (.t 152), none⟩, []),
          (⟨(some 158), .indexAddr 1 (.t 147) (.t 148), none⟩, []),
          (⟨none, .store 1 (.t 158) (.t 156), none⟩, [])])
        (.seq
        (.region [
          ⟨(some 159), .move (.t 12), none⟩,
          ⟨(some 160), .bin .add (.t 159) (.c (.int .i64 1)), none⟩,
          ⟨(some 12), .move (.t 160), none⟩])
        (.region [
          ⟨(some 161), .move (.t 13), none⟩,
          ⟨(some 162), .bin .sub (.t 161) (.c (.int .i64 1)), none⟩,
          ⟨(some 13), .move (.t 162), none⟩])))))))))
  (.seq
  (.draw [
    (⟨(some 163), .move (.t 0), none⟩, []),
    (⟨(some 164), .move (.t 13), none⟩, []),
    (⟨(some 165), .move (.t 0), none⟩, []),
    (⟨(some 166), .move (.t 1), none⟩, []),
    (⟨(some 167), .move (.t 0), none⟩, []),
    (⟨(some 168), .move (.t 1), none⟩, []),
    (⟨(some 169), .indexAddr 1 (.t 167) (.t 168), none⟩, []),
    (⟨(some 170), .load false 1 (.t 169), none⟩, []),
    (⟨(some 171), .move (.t 0), none⟩, []),
    (⟨(some 172), .move (.t 13), none⟩, []),
    (⟨(some 173), .indexAddr 1 (.t 171) (.t 172), none⟩, []),
    (⟨(some 174), .load false 1 (.t 173), none⟩, []),
    (⟨(some 175), .indexAddr 1 (.t 163) (.t 164), none⟩, []),
    (⟨none, .store 1 (.t 175) (.t 170), none⟩, []),
    (⟨(some 176), .indexAddr 1 (.t 165) (.t 166), none⟩, []),
    (⟨none, .store 1 (.t 176) (.t 174), none⟩, [])])
  (.seq
  (.region [
    ⟨(some 177), .move (.t 13), none⟩,
    ⟨(some 10), .move (.t 177), none⟩,
    ⟨(some 11), .move (.c (.bool false)), none⟩])
  .ret))))))))))))⟩

structure F_slices_partitionCmpFunc_LValue (P : Program) where
  id : FuncId
  has : Has P id [] c_slices_partitionCmpFunc_LValue

def c_slices_pdqsortCmpFunc_LValue (f_slices_insertionSortCmpFunc_LValue : FuncId) (f_slices_heapSortCmpFunc_LValue : FuncId) (f_slices_breakPatternsCmpFunc_LValue : FuncId) (f_slices_choosePivotCmpFunc_LValue : FuncId) (f_slices_reverseRangeCmpFunc_LValue : FuncId) (f_slices_partialInsertionSortCmpFunc_LValue : FuncId) (f_slices_partitionEqualCmpFunc_LValue : FuncId) (f_slices_partitionCmpFunc_LValue : FuncId) (f_slices_pdqsortCmpFunc_LValue : FuncId) : AFunc := ⟨148, [],
  (.seq
  (.region [
    ⟨(some 10), .move (.c (.bool true)), none⟩])
  (.seq
  (.region [
    ⟨(some 11), .move (.c (.bool true)), none⟩])
  (.block 0
    (.loop
      (.block 1
        (.seq
        (.region [
          ⟨(some 21), .move (.t 2), none⟩,
          ⟨(some 22), .move (.t 1), none⟩,
          ⟨(some 23), .bin .sub (.t 21) (.t 22), none⟩,
          ⟨(some 12), .move (.t 23), none⟩])
        (.seq
        (.seq
        (.region [
          ⟨(some 24), .move (.t 12), none⟩,
          ⟨(some 25), .bin .leq (.t 24) (.c (.int .i64 12)), none⟩])
        (.cond (.t 25)
          (.seq
          (.region [
            ⟨(some 26), .move (.t 0), none⟩,
            ⟨(some 27), .move (.t 1), none⟩,
            ⟨(some 28), .move (.t 2), none⟩,
            ⟨(some 29), .move (.t 4), none⟩,
            ⟨(some 30), .call f_slices_insertionSortCmpFunc_LValue [(.t 26), (.t 27), (.t 28), (.t 29)], none⟩])
          .ret)
          .skip))
        (.seq
        (.seq
        (.region [
          ⟨(some 31), .move (.t 3), none⟩,
          ⟨(some 32), .bin .eql (.t 31) (.c (.int .i64 0)), none⟩])
        (.cond (.t 32)
          (.seq
          (.region [
            ⟨(some 33), .move (.t 0), none⟩,
            ⟨(some 34), .move (.t 1), none⟩,
            ⟨(some 35), .move (.t 2), none⟩,
            ⟨(some 36), .move (.t 4), none⟩,
            ⟨(some 37), .call f_slices_heapSortCmpFunc_LValue [(.t 33), (.t 34), (.t 35), (.t 36)], none⟩])
          .ret)
          .skip))
        (.seq
        (.seq
        (.region [
          ⟨(some 38), .move (.t 10), none⟩,
          ⟨(some 39), .un .not (.t 38), none⟩])
        (.cond (.t 39)
          (.seq
          (.region [
            ⟨(some 40), .move (.t 0), none⟩,
            ⟨(some 41), .move (.t 1), none⟩,
            ⟨(some 42), .move (.t 2), none⟩,
            ⟨(some 43), .move (.t 4), none⟩,
            ⟨(some 44), .call f_slices_breakPatternsCmpFunc_LValue [(.t 40), (.t 41), (.t 42), (.t 43)], none⟩])
          (.region [
            ⟨(some 45), .move (.t 3), none⟩,
            ⟨(some 46), .bin .sub (.t 45) (.c (.int .i64 1)), none⟩,
            ⟨(some 3), .move (.t 46), none⟩]))
          .skip))
        (.seq
        (.region [
          ⟨(some 48), .move (.t 0), none⟩,
          ⟨(some 49), .move (.t 1), none⟩,
          ⟨(some 50), .move (.t 2), none⟩,
          ⟨(some 51), .move (.t 4), none⟩,
          ⟨(some 52), .call f_slices_choosePivotCmpFunc_LValue [(.t 48), (.t 49), (.t 50), (.t 51)], none⟩,
          ⟨(some 47), .move (.t 52), none⟩,
          ⟨(some 53), .extract (.t 47) 0, none⟩,
          ⟨(some 54), .extract (.t 47) 1, none⟩,
          ⟨(some 13), .move (.t 53), none⟩,
          ⟨(some 14), .move (.t 54), none⟩])
        (.seq
        (.seq
        (.region [
          ⟨(some 55), .move (.t 14), none⟩,
          ⟨(some 56), .bin .eql (.t 55) (.c (.int .i64 2)), none⟩])
        (.cond (.t 56)
          (.seq
          (.region [
            ⟨(some 57), .move (.t 0), none⟩,
            ⟨(some 58), .move (.t 1), none⟩,
            ⟨(some 59), .move (.t 2), none⟩,
            ⟨(some 60), .move (.t 4), none⟩,
            ⟨(some 61), .call f_slices_reverseRangeCmpFunc_LValue [(.t 57), (.t 58), (.t 59), (.t 60)], none⟩])
          (.seq
          (.region [
            ⟨(some 62), .move (.t 2), none⟩,
            ⟨(some 63), .bin .sub (.t 62) (.c (.int .i64 1)), none⟩,
            ⟨(some 64), .move (.t 13), none⟩,
            ⟨(some 65), .move (.t 1), none⟩,
            ⟨(some 66), .bin .sub (.t 64) (.t 65), none⟩,
            ⟨(some 67), .bin .sub (.t 63) (.t 66), none⟩,
            ⟨(some 13), .move (.t 67), none⟩])
          (.region [
            ⟨(some 14), .move (.c (.int .i64 1)), none⟩])))
          .skip))
        (.seq
        (.seq
        (.region [
          ⟨(some 68), .move (.t 10), none⟩,
          ⟨(some 69), .move (.t 68), none⟩,
          ⟨(some 70), .move (.t 11), some (some 69, true)⟩,
          ⟨(some 71), .pick (.t 69) (.t 70) (.c (.bool false)), none⟩,
          ⟨(some 72), .move (.t 71), none⟩,
          ⟨(some 73), .move (.t 14), some (some 72, true)⟩,
          ⟨(some 74), .bin .eql (.t 73) (.c (.int .i64 1)), some (some 72, true)⟩,
          ⟨(some 75), .pick (.t 72) (.t 74) (.c (.bool false)), none⟩])
        (.cond (.t 75)
          (.seq
          (.region [
            ⟨(some 76), .move (.t 0), none⟩,
            ⟨(some 77), .move (.t 1), none⟩,
            ⟨(some 78), .move (.t 2), none⟩,
            ⟨(some 79), .move (.t 4), none⟩,
            ⟨(some 80), .call f_slices_partialInsertionSortCmpFunc_LValue [(.t 76), (.t 77), (.t 78), (.t 79)], none⟩])
          (.cond (.t 80)
            .ret
            .skip))
          .skip))
        (.seq
        (.seq
        (.draw [
          (⟨(some 81), .move (.t 1), none⟩, []),
          (⟨(some 82), .bin .gtr (.t 81) (.c (.int .i64 0)), none⟩, []),
          (⟨(some 83), .move (.t 82), none⟩, []),
          (⟨(some 84), .move (.t 4), some (some 83, true)⟩, []),
          (⟨(some 85), .move (.t 0), some (some 83, true)⟩, []),
          (⟨(some 86), .move (.t 1), some (some 83, true)⟩, []),
          (⟨(some 87), .bin .sub (.t 86) (.c (.int .i64 1)), some (some 83, true)⟩, []),
          (⟨(some 88), .indexAddr 1 (.t 85) (.t 87), some (some 83, true)⟩, []),
          (⟨(some 89), .load false 1 (.t 88), some (some 83, true)⟩, []),
          (⟨(some 90), .move (.t 0), some (some 83, true)⟩, []),
          (⟨(some 91), .move (.t 13), some (some 83, true)⟩, []),
          (⟨(some 92), .indexAddr 1 (.t 90) (.t 91), some (some 83, true)⟩, []),
          (⟨(some 93), .load false 1 (.t 92), some (some 83, true)⟩, []),
          (⟨(some 94), .callv (.t 84) [(.t 89), (.t 93)], some (some 83, true)⟩, []),
          (⟨(some 95), .bin .lss (.t 94) (.c (.int .i64 0)), some (some 83, true)⟩, []),
          (⟨(some 96), .un .not (.t 95), some (some 83, true)⟩, []),
          (⟨(some 97), .pick (.t 83) (.t 96) (.c (.bool false)), none⟩, [])])
        (.cond (.t 97)
          (.seq
          (.region [
            ⟨(some 98), .move (.t 0), none⟩,
            ⟨(some 99), .move (.t 1), none⟩,
            ⟨(some 100), .move (.t 2), none⟩,
            ⟨(some 101), .move (.t 13), none⟩,
            ⟨(some 102), .move (.t 4), none⟩,
            ⟨(some 103), .call f_slices_partitionEqualCmpFunc_LValue [(.t 98), (.t 99), (.t 100), (.t 101), (.t 102)], none⟩,
            ⟨(some 15), .move (.t 103), none⟩])
          (.seq
          (.region [
            ⟨(some 104), .move (.t 15), none⟩,
            ⟨(some 1), .move (.t 104), none⟩])
          (.exit 1)))
          .skip))
        (.seq
        (.region [
          ⟨(some 106), .move (.t 0), none⟩,
          ⟨(some 107), .move (.t 1), none⟩,
          ⟨(some 108), .move (.t 2), none⟩,
          ⟨(some 109), .move (.t 13), none⟩,
          ⟨(some 110), .move (.t 4), none⟩,
          ⟨(some 111), .call f_slices_partitionCmpFunc_LValue [(.t 106), (.t 107), (.t 108), (.t 109), (.t 110)], none⟩,
          ⟨(some 105), .move (.t 111), none⟩,
          ⟨(some 112), .extract (.t 105) 0, none⟩,
          ⟨(some 113), .extract (.t 105) 1, none⟩,
          ⟨(some 16), .move (.t 112), none⟩,
          ⟨(some 17), .move (.t 113), none⟩])
        (.seq
        (.region [
          ⟨(some 114), .move (.t 17), none⟩,
          ⟨(some 11), .move (.t 114), none⟩])
        (.seq
        (.region [
          ⟨(some 115), .move (.t 16), none⟩,
          ⟨(some 116), .move (.t 1), none⟩,
          ⟨(some 117), .bin .sub (.t 115) (.t 116), none⟩,
          ⟨(some 118), .move (.t 2), none⟩,
          ⟨(some 119), .move (.t 16), none⟩,
          ⟨(some 120), .bin .sub (.t 118) (.t 119), none⟩,
          ⟨(some 18), .move (.t 117), none⟩,
          ⟨(some 19), .move (.t 120), none⟩])
        (.seq
        (.region [
          ⟨(some 121), .move (.t 12), none⟩,
          ⟨(some 122), .bin .quo (.t 121) (.c (.int .i64 8)), none⟩,
          ⟨(some 20), .move (.t 122), none⟩])
        (.seq
        (.region [
          ⟨(some 123), .move (.t 18), none⟩,
          ⟨(some 124), .move (.t 19), none⟩,
          ⟨(some 125), .bin .lss (.t 123) (.t 124), none⟩])
        (.cond (.t 125)
          (.seq
          (.region [
            ⟨(some 126), .move (.t 18), none⟩,
            ⟨(some 127), .move (.t 20), none⟩,
            ⟨(some 128), .bin .geq (.t 126) (.t 127), none⟩,
            ⟨(some 10), .move (.t 128), none⟩])
          (.seq
          (.region [
            ⟨(some 129), .move (.t 0), none⟩,
            ⟨(some 130), .move (.t 1), none⟩,
            ⟨(some 131), .move (.t 16), none⟩,
            ⟨(some 132), .move (.t 3), none⟩,
            ⟨(some 133), .move (.t 4), none⟩,
            ⟨(some 134), .call f_slices_pdqsortCmpFunc_LValue [(.t 129), (.t 130), (.t 131), (.t 132), (.t 133)], none⟩])
          (.region [
            ⟨(some 135), .move (.t 16), none⟩,
            ⟨(some 136), .bin .add (.t 135) (.c (.int .i64 1)), none⟩,
            ⟨(some 1), .move (.t 136), none⟩])))
          (.seq
          (.region [
            ⟨(some 137), .move (.t 19), none⟩,
            ⟨(some 138), .move (.t 20), none⟩,
            ⟨(some 139), .bin .geq (.t 137) (.t 138), none⟩,
            ⟨(some 10), .move (.t 139), none⟩])
          (.seq
          (.region [
            ⟨(some 140), .move (.t 0), none⟩,
            ⟨(some 141), .move (.t 16), none⟩,
            ⟨(some 142), .bin .add (.t 141) (.c (.int .i64 1)), none⟩,
            ⟨(some 143), .move (.t 2), none⟩,
            ⟨(some 144), .move (.t 3), none⟩,
            ⟨(some 145), .move (.t 4), none⟩,
            ⟨(some 146), .call f_slices_pdqsortCmpFunc_LValue [(.t 140), (.t 142), (.t 143), (.t 144), (.t 145)], none⟩])
          (.region [
            ⟨(some 147), .move (.t 16), none⟩,
            ⟨(some 2), .move (.t 147), none⟩]))))))))))))))))))))))⟩

structure F_slices_pdqsortCmpFunc_LValue (P : Program) where
  id : FuncId
  slices_insertionSortCmpFunc_LValue : F_slices_insertionSortCmpFunc_LValue P
  slices_heapSortCmpFunc_LValue : F_slices_heapSortCmpFunc_LValue P
  slices_breakPatternsCmpFunc_LValue : F_slices_breakPatternsCmpFunc_LValue P
  slices_choosePivotCmpFunc_LValue : F_slices_choosePivotCmpFunc_LValue P
  slices_reverseRangeCmpFunc_LValue : F_slices_reverseRangeCmpFunc_LValue P
  slices_partialInsertionSortCmpFunc_LValue : F_slices_partialInsertionSortCmpFunc_LValue P
  slices_partitionEqualCmpFunc_LValue : F_slices_partitionEqualCmpFunc_LValue P
  slices_partitionCmpFunc_LValue : F_slices_partitionCmpFunc_LValue P
  has : Has P id [] (c_slices_pdqsortCmpFunc_LValue slices_insertionSortCmpFunc_LValue.id slices_heapSortCmpFunc_LValue.id slices_breakPatternsCmpFunc_LValue.id slices_choosePivotCmpFunc_LValue.id slices_reverseRangeCmpFunc_LValue.id slices_partialInsertionSortCmpFunc_LValue.id slices_partitionEqualCmpFunc_LValue.id slices_partitionCmpFunc_LValue.id id)

def c_slices_SortFunc_LLValue_LValue (f_math_bits_Len : FuncId) (f_slices_pdqsortCmpFunc_LValue : FuncId) : AFunc := ⟨14, [],
  (.seq
  (.region [
    ⟨(some 5), .move (.t 0), none⟩,
    ⟨(some 6), .len (.t 5), none⟩,
    ⟨(some 4), .move (.t 6), none⟩])
  (.region [
    ⟨(some 7), .move (.t 0), none⟩,
    ⟨(some 8), .move (.t 4), none⟩,
    ⟨(some 9), .move (.t 4), none⟩,
    ⟨(some 10), .conv .u64 (.t 9), none⟩,
    ⟨(some 11), .call f_math_bits_Len [(.t 10)], none⟩,
    ⟨(some 12), .move (.t 1), none⟩,
    ⟨(some 13), .call f_slices_pdqsortCmpFunc_LValue [(.t 7), (.c (.int .i64 0)), (.t 8), (.t 11), (.t 12)], none⟩]))⟩

structure F_slices_SortFunc_LLValue_LValue (P : Program) where
  id : FuncId
  math_bits_Len : F_math_bits_Len P
  slices_pdqsortCmpFunc_LValue : F_slices_pdqsortCmpFunc_LValue P
  has : Has P id [] (c_slices_SortFunc_LLValue_LValue math_bits_Len.id slices_pdqsortCmpFunc_LValue.id)

def c_window_partitions (f_schema_Pick : FuncId) (f_window_fingerprint : FuncId) (f_window_partitions_1 : FuncId) (f_slices_SortFunc_LLValue_LValue : FuncId) : AFunc := ⟨65, [.tmp 6],
  (.seq
  (.seq
  (.region [
    ⟨(some 5), .box (.t 2), none⟩,
    ⟨(some 6), .move (.c .nil), none⟩])
  .ghost)
  (.seq
  (.region [
    ⟨(some 16), .mkMap, none⟩,
    ⟨(some 7), .move (.t 16), none⟩])
  (.seq
  (.region [
    ⟨(some 8), .move (.c .nil), none⟩])
  (.seq
  (.seq
  (.region [
    ⟨(some 17), .move (.t 0), none⟩,
    ⟨(some 18), .len (.t 17), none⟩,
    ⟨(some 19), .move (.c (.int .i64 0)), none⟩])
  (.block 0
    (.loop
      (.seq
      (.region [
        ⟨(some 20), .bin .lss (.t 19) (.t 18), none⟩])
      (.seq
      (.cond (.t 20)
        .skip
        (.exit 0))
      (.seq
      (.block 1
        (.seq
        (.region [
          ⟨(some 21), .indexAddr 1 (.t 17) (.t 19), none⟩,
          ⟨(some 22), .load false 1 (.t 21), none⟩,
          ⟨(some 10), .move (.t 22), none⟩])
        (.seq
        (.region [
          ⟨(some 23), .move (.t 10), none⟩,
          ⟨(some 24), .move (.t 1), none⟩,
          ⟨(some 25), .call f_schema_Pick [(.t 23), (.t 24)], none⟩,
          ⟨(some 26), .call f_window_fingerprint [(.t 25)], none⟩,
          ⟨(some 11), .move (.t 26), none⟩])
        (.seq
        (.region [
          ⟨(some 28), .move (.t 7), none⟩,
          ⟨(some 29), .move (.t 11), none⟩,
          ⟨(some 30), .lookupM 2 (.int .i64 0) true (.t 28) (.t 29), none⟩,
          ⟨(some 27), .move (.t 30), none⟩,
          ⟨(some 31), .extract (.t 27) 0, none⟩,
          ⟨(some 32), .extract (.t 27) 1, none⟩,
          ⟨(some 12), .move (.t 31), none⟩,
          ⟨(some 13), .move (.t 32), none⟩])
        (.seq
        (.seq
        (.region [
          ⟨(some 33), .move (.t 13), none⟩,
          ⟨(some 34), .un .not (.t 33), none⟩])
        (.cond (.t 34)
          (.seq
          (.region [
            ⟨(some 35), .move (.t 8), none⟩,
            ⟨(some 36), .len (.t 35), none⟩,
            ⟨(some 12), .move (.t 36), none⟩])
          (.seq
          (.region [
            ⟨(some 37), .move (.t 7), none⟩,
            ⟨(some 38), .move (.t 11), none⟩,
            ⟨(some 39), .move (.t 12), none⟩,
            ⟨none, .mapSet 2 (.t 37) (.t 38) (.t 39), none⟩])
          (.region [
            ⟨(some 40), .move (.t 8), none⟩,
            ⟨(some 41), .buildSlice 1 1 [.nil] [(0, (.c .nil))], none⟩,
            ⟨(some 42), .append 1 24 [.nil] (.t 40) (.t 41), none⟩,
            ⟨(some 8), .move (.t 42), none⟩])))
          .skip))
        (.region [
          ⟨(some 43), .move (.t 8), none⟩,
          ⟨(some 44), .move (.t 12), none⟩,
          ⟨(some 45), .move (.t 8), none⟩,
          ⟨(some 46), .move (.t 12), none⟩,
          ⟨(some 47), .indexAddr 1 (.t 45) (.t 46), none⟩,
          ⟨(some 48), .load false 1 (.t 47), none⟩,
          ⟨(some 49), .move (.t 10), none⟩,
          ⟨(some 50), .buildSlice 1 1 [.nil] [(0, (.t 49))], none⟩,
          ⟨(some 51), .append 1 24 [.nil] (.t 48) (.t 50), none⟩,
          ⟨(some 52), .indexAddr 1 (.t 43) (.t 44), none⟩,
          ⟨none, .store 1 (.t 52) (.t 51), none⟩]))))))
      (.region [
        ⟨(some 53), .bin .add (.t 19) (.c (.int .i64 1)), none⟩,
        ⟨(some 19), .move (.t 53), none⟩])))))))
  (.seq
  (.seq
  (.region [
    ⟨(some 54), .move (.t 8), none⟩,
    ⟨(some 55), .len (.t 54), none⟩,
    ⟨(some 56), .move (.c (.int .i64 0)), none⟩])
  (.seq
  (.block 2
    (.loop
      (.seq
      (.region [
        ⟨(some 57), .bin .lss (.t 56) (.t 55), none⟩])
      (.seq
      (.cond (.t 57)
        .skip
        (.exit 2))
      (.seq
      (.block 3
        (.seq
        (.region [
          ⟨(some 58), .indexAddr 1 (.t 54) (.t 56), none⟩,
          ⟨(some 59), .load false 1 (.t 58), none⟩,
          ⟨(some 15), .move (.t 59), none⟩])
        (.region [
          ⟨(some 60), .move (.t 15), none⟩,
          ⟨(some 61), .makeFunc f_window_partitions_1 [(.t 5)], none⟩,
          ⟨(some 62), .call f_slices_SortFunc_LLValue_LValue [(.t 60), (.t 61)], none⟩])))
      (.region [
        ⟨(some 63), .bin .add (.t 56) (.c (.int .i64 1)), none⟩,
        ⟨(some 56), .move (.t 63), none⟩]))))))
  .ghost))
  (.seq
  (.region [
    ⟨(some 64), .move (.t 8), none⟩,
    ⟨(some 6), .move (.t 64), none⟩])
  .ret))))))⟩

structure F_window_partitions (P : Program) where
  id : FuncId
  schema_Pick : F_schema_Pick P
  window_fingerprint : F_window_fingerprint P
  window_partitions_1 : F_window_partitions_1 P
  slices_SortFunc_LLValue_LValue : F_slices_SortFunc_LLValue_LValue P
  has : Has P id [100005, 200002] (c_window_partitions schema_Pick.id window_fingerprint.id window_partitions_1.id slices_SortFunc_LLValue_LValue.id)

def c_window_column_1 (f_window_cell : FuncId) : AFunc := ⟨20, [.cell true 3 5],
  (.seq
  (.region [
    ⟨(some 5), .alloc [(.int .i64 0), (.int .i64 0), (.str (bs []))], none⟩])
  (.seq
  (.seq
  (.region [
    ⟨(some 6), .move (.t 0), none⟩,
    ⟨(some 7), .bin .lss (.t 6) (.c (.int .i64 0)), none⟩,
    ⟨(some 8), .move (.t 7), none⟩,
    ⟨(some 9), .move (.t 0), some (some 8, false)⟩,
    ⟨(some 10), .load false 1 (.t 1), some (some 8, false)⟩,
    ⟨(some 11), .bin .geq (.t 9) (.t 10), some (some 8, false)⟩,
    ⟨(some 12), .pick (.t 8) (.c (.bool true)) (.t 11), none⟩])
  (.cond (.t 12)
    (.seq
    (.region [
      ⟨(some 13), .build [(.int .i64 0), (.int .i64 0), (.str (bs []))] [], none⟩,
      ⟨none, .store 3 (.t 5) (.t 13), none⟩])
    .ret)
    .skip))
  (.seq
  (.draw [
    (⟨(some 14), .load false 1 (.t 2), none⟩, []),
    (⟨(some 15), .move (.t 0), none⟩, []),
    (⟨(some 16), .indexAddr 1 (.t 14) (.t 15), none⟩, []),
    (⟨(some 17), .load false 1 (.t 16), none⟩, []),
    (⟨(some 18), .load false 1 (.t 3), none⟩, []),
    (⟨(some 19), .call f_window_cell [(.t 17), (.t 18)], none⟩, []),
    (⟨none, .store 3 (.t 5) (.t 19), none⟩, [])])
  .ret)))⟩

structure F_window_column_1 (P : Program) where
  id : FuncId
  window_cell : F_window_cell P
  has : Has P id [] (c_window_column_1 window_cell.id)

def c_window_integer : AFunc := ⟨12, [.cell true 3 2],
  (.seq
  (.region [
    ⟨(some 2), .alloc [(.int .i64 0), (.int .i64 0), (.str (bs []))], none⟩])
  (.seq
  (.seq
  (.region [
    ⟨(some 3), .move (.t 0), none⟩,
    ⟨(some 4), .bin .lss (.t 3) (.c (.int .i64 (-1073741824))), none⟩,
    ⟨(some 5), .move (.t 4), none⟩,
    ⟨(some 6), .move (.t 0), some (some 5, false)⟩,
    ⟨(some 7), .bin .gtr (.t 6) (.c (.int .i64 1073741824)), some (some 5, false)⟩,
    ⟨(some 8), .pick (.t 5) (.c (.bool true)) (.t 7), none⟩])
  (.cond (.t 8)
    (.seq
    (.region [
      ⟨(some 9), .build [(.int .i64 0), (.int .i64 0), (.str (bs []))] [], none⟩,
      ⟨none, .store 3 (.t 2) (.t 9), none⟩])
    .ret)
    .skip))
  (.seq
  (.region [
    ⟨(some 10), .move (.t 0), none⟩,
    ⟨(some 11), .build [(.int .i64 0), (.int .i64 0), (.str (bs []))] [(0, 1, (.c (.int .i64 2))), (1, 1, (.t 10))], none⟩,
    ⟨none, .store 3 (.t 2) (.t 11), none⟩])
  .ret)))⟩

structure F_window_integer (P : Program) where
  id : FuncId
  has : Has P id [] c_window_integer

def c_window_column (f_window_column_1 : FuncId) (f_window_integer : FuncId) (f_schema_Pick : FuncId) (f_value_CompareRows : FuncId) : AFunc := ⟨130, [.tmp 8],
  (.seq
  (.region [
    ⟨(some 4), .box (.t 0), none⟩,
    ⟨(some 5), .box (.t 1), none⟩,
    ⟨(some 7), .box (.t 3), none⟩,
    ⟨(some 8), .move (.c .nil), none⟩])
  (.seq
  (.seq
  (.region [
    ⟨(some 17), .load false 1 (.t 5), none⟩,
    ⟨(some 18), .len (.t 17), none⟩,
    ⟨(some 9), .alloc [(.int .i64 0)], none⟩,
    ⟨none, .store 1 (.t 9) (.t 18), none⟩])
  .ghost)
  (.seq
  (.region [
    ⟨(some 19), .makeFunc f_window_column_1 [(.t 9), (.t 5), (.t 7)], none⟩,
    ⟨(some 10), .move (.t 19), none⟩])
  (.seq
  (.region [
    ⟨(some 20), .load false 1 (.t 9), none⟩,
    ⟨(some 21), .mkSlice 3 32 [(.int .i64 0), (.int .i64 0), (.str (bs []))] (.t 20) (.t 20), none⟩,
    ⟨(some 11), .move (.t 21), none⟩])
  (.seq
  (.region [
    ⟨(some 12), .move (.c (.int .i64 1)), none⟩,
    ⟨(some 13), .move (.c (.int .i64 0)), none⟩,
    ⟨(some 14), .move (.c (.bool false)), none⟩])
  (.seq
  (.seq
  (.region [
    ⟨(some 22), .load false 1 (.t 5), none⟩,
    ⟨(some 23), .len (.t 22), none⟩,
    ⟨(some 24), .move (.c (.int .i64 0)), none⟩])
  (.block 0
    (.loop
      (.seq
      (.region [
        ⟨(some 25), .bin .lss (.t 24) (.t 23), none⟩])
      (.seq
      (.cond (.t 25)
        .skip
        (.exit 0))
      (.seq
      (.block 1
        (.seq
        (.region [
          ⟨(some 26), .move (.t 24), none⟩,
          ⟨(some 15), .move (.t 26), none⟩])
        (.seq
        (.region [
          ⟨(some 27), .fieldAddr 1 (.t 4), none⟩,
          ⟨(some 28), .load false 1 (.t 27), none⟩])
        (.block 2
          (.seq
          (.region [
            ⟨(some 30), .bin .eql (.t 28) (.c (.int .i64 1)), none⟩,
            ⟨(some 29), .move (.t 30), none⟩])
          (.cond (.t 29)
            (.region [
              ⟨(some 31), .move (.t 11), none⟩,
              ⟨(some 32), .move (.t 15), none⟩,
              ⟨(some 33), .load false 1 (.t 9), none⟩,
              ⟨(some 34), .call f_window_integer [(.t 33)], none⟩,
              ⟨(some 35), .indexAddr 3 (.t 31) (.t 32), none⟩,
              ⟨none, .store 3 (.t 35) (.t 34), none⟩])
            (.seq
            (.region [
              ⟨(some 37), .bin .eql (.t 28) (.c (.int .i64 8)), none⟩,
              ⟨(some 36), .move (.t 37), none⟩])
            (.cond (.t 36)
              (.region [
                ⟨(some 38), .move (.t 11), none⟩,
                ⟨(some 39), .move (.t 15), none⟩,
                ⟨(some 40), .move (.t 15), none⟩,
                ⟨(some 41), .bin .add (.t 40) (.c (.int .i64 1)), none⟩,
                ⟨(some 42), .call f_window_integer [(.t 41)], none⟩,
                ⟨(some 43), .indexAddr 3 (.t 38) (.t 39), none⟩,
                ⟨none, .store 3 (.t 43) (.t 42), none⟩])
              (.seq
              (.region [
                ⟨(some 45), .bin .eql (.t 28) (.c (.int .i64 9)), none⟩,
                ⟨(some 44), .move (.t 45), none⟩])
              (.cond (.t 44)
                (.seq
                (.seq
                (.draw [
                  (⟨(some 46), .move (.t 15), none⟩, []),
                  (⟨(some 47), .bin .gtr (.t 46) (.c (.int .i64 0)), none⟩, []),
                  (⟨(some 48), .move (.t 47), none⟩, []),
                  (⟨(some 49), .load false 1 (.t 5), some (some 48, true)⟩, []),
                  (⟨(some 50), .move (.t 15), some (some 48, true)⟩, []),
                  (⟨(some 51), .bin .sub (.t 50) (.c (.int .i64 1)), some (some 48, true)⟩, []),
                  (⟨(some 52), .indexAddr 1 (.t 49) (.t 51), some (some 48, true)⟩, []),
                  (⟨(some 53), .load false 1 (.t 52), some (some 48, true)⟩, []),
                  (⟨(some 54), .move (.t 2), some (some 48, true)⟩, []),
                  (⟨(some 55), .call f_schema_Pick [(.t 53), (.t 54)], some (some 48, true)⟩, []),
                  (⟨(some 56), .load false 1 (.t 5), some (some 48, true)⟩, []),
                  (⟨(some 57), .move (.t 15), some (some 48, true)⟩, []),
                  (⟨(some 58), .indexAddr 1 (.t 56) (.t 57), some (some 48, true)⟩, []),
                  (⟨(some 59), .load false 1 (.t 58), some (some 48, true)⟩, []),
                  (⟨(some 60), .move (.t 2), some (some 48, true)⟩, []),
                  (⟨(some 61), .call f_schema_Pick [(.t 59), (.t 60)], some (some 48, true)⟩, []),
                  (⟨(some 62), .call f_value_CompareRows [(.t 55), (.t 61)], some (some 48, true)⟩, []),
                  (⟨(some 63), .bin .neq (.t 62) (.c (.int .i64 0)), some (some 48, true)⟩, []),
                  (⟨(some 64), .pick (.t 48) (.t 63) (.c (.bool false)), none⟩, [])])
                (.cond (.t 64)
                  (.region [
                    ⟨(some 65), .move (.t 15), none⟩,
                    ⟨(some 66), .bin .add (.t 65) (.c (.int .i64 1)), none⟩,
                    ⟨(some 12), .move (.t 66), none⟩])
                  .skip))
                (.region [
                  ⟨(some 67), .move (.t 11), none⟩,
                  ⟨(some 68), .move (.t 15), none⟩,
                  ⟨(some 69), .move (.t 12), none⟩,
                  ⟨(some 70), .call f_window_integer [(.t 69)], none⟩,
                  ⟨(some 71), .indexAddr 3 (.t 67) (.t 68), none⟩,
                  ⟨none, .store 3 (.t 71) (.t 70), none⟩]))
                (.seq
                (.region [
                  ⟨(some 73), .bin .eql (.t 28) (.c (.int .i64 3)), none⟩,
                  ⟨(some 72), .move (.t 73), none⟩])
                (.cond (.t 72)
                  (.seq
                  (.seq
                  (.region [
                    ⟨(some 74), .move (.t 10), none⟩,
                    ⟨(some 75), .move (.t 15), none⟩,
                    ⟨(some 76), .callv (.t 74) [(.t 75)], none⟩,
                    ⟨(some 16), .alloc [(.int .i64 0), (.int .i64 0), (.str (bs []))], none⟩,
                    ⟨none, .store 3 (.t 16) (.t 76), none⟩])
                  (.seq
                  (.region [
                    ⟨(some 77), .fieldAddr 0 (.t 16), none⟩,
                    ⟨(some 78), .load false 1 (.t 77), none⟩,
                    ⟨(some 79), .bin .neq (.t 78) (.c (.int .i64 0)), none⟩])
                  (.cond (.t 79)
                    (.region [
                      ⟨(some 80), .move (.t 13), none⟩,
                      ⟨(some 81), .fieldAddr 1 (.t 16), none⟩,
                      ⟨(some 82), .load false 1 (.t 81), none⟩,
                      ⟨(some 83), .bin .add (.t 80) (.t 82), none⟩,
                      ⟨(some 13), .move (.t 83), none⟩,
                      ⟨(some 14), .move (.c (.bool true)), none⟩])
                    .skip)))
                  (.seq
                  (.region [
                    ⟨(some 84), .move (.t 14), none⟩])
                  (.cond (.t 84)
                    (.region [
                      ⟨(some 85), .move (.t 11), none⟩,
                      ⟨(some 86), .move (.t 15), none⟩,
                      ⟨(some 87), .move (.t 13), none⟩,
                      ⟨(some 88), .call f_window_integer [(.t 87)], none⟩,
                      ⟨(some 89), .indexAddr 3 (.t 85) (.t 86), none⟩,
                      ⟨none, .store 3 (.t 89) (.t 88), none⟩])
                    .skip)))
                  (.seq
                  (.region [
                    ⟨(some 91), .bin .eql (.t 28) (.c (.int .i64 10)), none⟩,
                    ⟨(some 90), .move (.t 91), none⟩])
                  (.cond (.t 90)
                    (.region [
                      ⟨(some 92), .move (.t 11), none⟩,
                      ⟨(some 93), .move (.t 15), none⟩,
                      ⟨(some 94), .move (.t 10), none⟩,
                      ⟨(some 95), .move (.t 15), none⟩,
                      ⟨(some 96), .fieldAddr 3 (.t 4), none⟩,
                      ⟨(some 97), .load false 1 (.t 96), none⟩,
                      ⟨(some 98), .bin .sub (.t 95) (.t 97), none⟩,
                      ⟨(some 99), .callv (.t 94) [(.t 98)], none⟩,
                      ⟨(some 100), .indexAddr 3 (.t 92) (.t 93), none⟩,
                      ⟨none, .store 3 (.t 100) (.t 99), none⟩])
                    (.seq
                    (.region [
                      ⟨(some 102), .bin .eql (.t 28) (.c (.int .i64 11)), none⟩,
                      ⟨(some 101), .move (.t 102), none⟩])
                    (.cond (.t 101)
                      (.region [
                        ⟨(some 103), .move (.t 11), none⟩,
                        ⟨(some 104), .move (.t 15), none⟩,
                        ⟨(some 105), .move (.t 10), none⟩,
                        ⟨(some 106), .move (.t 15), none⟩,
                        ⟨(some 107), .fieldAddr 3 (.t 4), none⟩,
                        ⟨(some 108), .load false 1 (.t 107), none⟩,
                        ⟨(some 109), .bin .add (.t 106) (.t 108), none⟩,
                        ⟨(some 110), .callv (.t 105) [(.t 109)], none⟩,
                        ⟨(some 111), .indexAddr 3 (.t 103) (.t 104), none⟩,
                        ⟨none, .store 3 (.t 111) (.t 110), none⟩])
                      (.seq
                      (.region [
                        ⟨(some 113), .bin .eql (.t 28) (.c (.int .i64 12)), none⟩,
                        ⟨(some 112), .move (.t 113), none⟩])
                      (.cond (.t 112)
                        (.region [
                          ⟨(some 114), .move (.t 11), none⟩,
                          ⟨(some 115), .move (.t 15), none⟩,
                          ⟨(some 116), .move (.t 10), none⟩,
                          ⟨(some 117), .callv (.t 116) [(.c (.int .i64 0))], none⟩,
                          ⟨(some 118), .indexAddr 3 (.t 114) (.t 115), none⟩,
                          ⟨none, .store 3 (.t 118) (.t 117), none⟩])
                        (.seq
                        (.region [
                          ⟨(some 120), .bin .eql (.t 28) (.c (.int .i64 13)), none⟩,
                          ⟨(some 119), .move (.t 120), none⟩])
                        (.cond (.t 119)
                          (.region [
                            ⟨(some 121), .move (.t 11), none⟩,
                            ⟨(some 122), .move (.t 15), none⟩,
                            ⟨(some 123), .move (.t 10), none⟩,
                            ⟨(some 124), .load false 1 (.t 9), none⟩,
                            ⟨(some 125), .bin .sub (.t 124) (.c (.int .i64 1)), none⟩,
                            ⟨(some 126), .callv (.t 123) [(.t 125)], none⟩,
                            ⟨(some 127), .indexAddr 3 (.t 121) (.t 122), none⟩,
                            ⟨none, .store 3 (.t 127) (.t 126), none⟩])
                          .skip))))))))))))))))))))
      (.region [
        ⟨(some 128), .bin .add (.t 24) (.c (.int .i64 1)), none⟩,
        ⟨(some 24), .move (.t 128), none⟩])))))))
  (.seq
  (.region [
    ⟨(some 129), .move (.t 11), none⟩,
    ⟨(some 8), .move (.t 129), none⟩])
  .ret)))))))⟩

structure F_window_column (P : Program) where
  id : FuncId
  window_column_1 : F_window_column_1 P
  window_integer : F_window_integer P
  schema_Pick : F_schema_Pick P
  value_CompareRows : F_value_CompareRows P
  has : Has P id [100009] (c_window_column window_column_1.id window_integer.id schema_Pick.id value_CompareRows.id)

def c_window_Apply (f_bag_Expand : FuncId) (f_window_check : FuncId) (f_window_partitions : FuncId) (f_window_column : FuncId) (f_slices_Clone_LValue_Value : FuncId) (f_bag_Normalize : FuncId) : AFunc := ⟨102, [.tmp 10, .tmp 11],
  (.seq
  (.region [
    ⟨(some 10), .move (.c .nil), none⟩,
    ⟨(some 11), .move (.c (.int .i64 0)), none⟩])
  (.seq
  (.region [
    ⟨(some 26), .move (.t 4), none⟩,
    ⟨(some 27), .call f_bag_Expand [(.t 26)], none⟩,
    ⟨(some 25), .move (.t 27), none⟩,
    ⟨(some 28), .extract (.t 25) 0, none⟩,
    ⟨(some 29), .extract (.t 25) 1, none⟩,
    ⟨(some 12), .move (.t 28), none⟩,
    ⟨(some 13), .move (.t 29), none⟩])
  (.seq
  (.seq
  (.region [
    ⟨(some 30), .move (.t 13), none⟩,
    ⟨(some 31), .bin .neq (.t 30) (.c (.int .i64 0)), none⟩])
  (.cond (.t 31)
    (.seq
    (.region [
      ⟨(some 32), .move (.t 13), none⟩,
      ⟨(some 10), .move (.c .nil), none⟩,
      ⟨(some 11), .move (.t 32), none⟩])
    .ret)
    .skip))
  (.seq
  (.seq
  (.region [
    ⟨(some 33), .move (.t 0), none⟩,
    ⟨(some 34), .move (.t 3), none⟩,
    ⟨(some 35), .move (.t 12), none⟩,
    ⟨(some 36), .call f_window_check [(.t 33), (.t 34), (.t 35)], none⟩,
    ⟨(some 14), .move (.t 36), none⟩])
  (.seq
  (.region [
    ⟨(some 37), .move (.t 14), none⟩,
    ⟨(some 38), .bin .neq (.t 37) (.c (.int .i64 0)), none⟩])
  (.cond (.t 38)
    (.seq
    (.region [
      ⟨(some 39), .move (.t 14), none⟩,
      ⟨(some 10), .move (.c .nil), none⟩,
      ⟨(some 11), .move (.t 39), none⟩])
    .ret)
    .skip)))
  (.seq
  (.region [
    ⟨(some 15), .move (.c .nil), none⟩])
  (.seq
  (.seq
  (.region [
    ⟨(some 40), .move (.t 12), none⟩,
    ⟨(some 41), .move (.t 1), none⟩,
    ⟨(some 42), .move (.t 2), none⟩,
    ⟨(some 43), .call f_window_partitions [(.t 40), (.t 41), (.t 42)], none⟩,
    ⟨(some 44), .len (.t 43), none⟩,
    ⟨(some 45), .move (.c (.int .i64 0)), none⟩])
  (.seq
  (.block 0
    (.loop
      (.seq
      (.region [
        ⟨(some 46), .bin .lss (.t 45) (.t 44), none⟩])
      (.seq
      (.cond (.t 46)
        .skip
        (.exit 0))
      (.seq
      (.block 1
        (.seq
        (.region [
          ⟨(some 47), .indexAddr 1 (.t 43) (.t 45), none⟩,
          ⟨(some 48), .load false 1 (.t 47), none⟩,
          ⟨(some 17), .move (.t 48), none⟩])
        (.seq
        (.region [
          ⟨(some 18), .move (.c .nil), none⟩])
        (.seq
        (.seq
        (.region [
          ⟨(some 49), .move (.t 0), none⟩,
          ⟨(some 50), .len (.t 49), none⟩,
          ⟨(some 51), .move (.c (.int .i64 0)), none⟩])
        (.block 2
          (.loop
            (.seq
            (.region [
              ⟨(some 52), .bin .lss (.t 51) (.t 50), none⟩])
            (.seq
            (.cond (.t 52)
              .skip
              (.exit 2))
            (.seq
            (.block 3
              (.seq
              (.region [
                ⟨(some 53), .move (.t 51), none⟩,
                ⟨(some 54), .indexAddr 5 (.t 49) (.t 51), none⟩,
                ⟨(some 55), .load true 5 (.t 54), none⟩,
                ⟨(some 20), .alloc [(.str (bs [])), (.int .i64 0), (.str (bs [])), (.int .i64 0), .nil], none⟩,
                ⟨(some 19), .move (.t 53), none⟩,
                ⟨none, .store 5 (.t 20) (.t 55), none⟩])
              (.draw [
                (⟨(some 56), .move (.t 18), none⟩, []),
                (⟨(some 57), .load true 5 (.t 20), none⟩, []),
                (⟨(some 58), .move (.t 17), none⟩, []),
                (⟨(some 59), .move (.t 2), none⟩, []),
                (⟨(some 60), .move (.t 3), none⟩, []),
                (⟨(some 61), .move (.t 19), none⟩, []),
                (⟨(some 62), .indexAddr 1 (.t 60) (.t 61), none⟩, []),
                (⟨(some 63), .load false 1 (.t 62), none⟩, []),
                (⟨(some 64), .call f_window_column [(.t 57), (.t 58), (.t 59), (.t 63)], none⟩, []),
                (⟨(some 65), .buildSlice 1 1 [.nil] [(0, (.t 64))], none⟩, []),
                (⟨(some 66), .append 1 24 [.nil] (.t 56) (.t 65), none⟩, []),
                (⟨(some 18), .move (.t 66), none⟩, [])])))
            (.region [
              ⟨(some 67), .bin .add (.t 51) (.c (.int .i64 1)), none⟩,
              ⟨(some 51), .move (.t 67), none⟩])))))))
        (.seq
        (.region [
          ⟨(some 68), .move (.t 17), none⟩,
          ⟨(some 69), .len (.t 68), none⟩,
          ⟨(some 70), .move (.c (.int .i64 0)), none⟩])
        (.block 4
          (.loop
            (.seq
            (.region [
              ⟨(some 71), .bin .lss (.t 70) (.t 69), none⟩])
            (.seq
            (.cond (.t 71)
              .skip
              (.exit 4))
            (.seq
            (.block 5
              (.seq
              (.region [
                ⟨(some 72), .move (.t 70), none⟩,
                ⟨(some 73), .indexAddr 1 (.t 68) (.t 70), none⟩,
                ⟨(some 74), .load false 1 (.t 73), none⟩,
                ⟨(some 21), .move (.t 72), none⟩,
                ⟨(some 22), .move (.t 74), none⟩])
              (.seq
              (.region [
                ⟨(some 75), .move (.t 22), none⟩,
                ⟨(some 76), .call f_slices_Clone_LValue_Value [(.t 75)], none⟩,
                ⟨(some 22), .move (.t 76), none⟩])
              (.seq
              (.seq
              (.region [
                ⟨(some 77), .move (.t 18), none⟩,
                ⟨(some 78), .len (.t 77), none⟩,
                ⟨(some 79), .move (.c (.int .i64 0)), none⟩])
              (.block 6
                (.loop
                  (.seq
                  (.region [
                    ⟨(some 80), .bin .lss (.t 79) (.t 78), none⟩])
                  (.seq
                  (.cond (.t 80)
                    .skip
                    (.exit 6))
                  (.seq
                  (.block 7
                    (.seq
                    (.region [
                      ⟨(some 81), .indexAddr 1 (.t 77) (.t 79), none⟩,
                      ⟨(some 82), .load false 1 (.t 81), none⟩,
                      ⟨(some 24), .move (.t 82), none⟩])
                    (.region [
                      ⟨(some 83), .move (.t 22), none⟩,
                      ⟨(some 84), .move (.t 24), none⟩,
                      ⟨(some 85), .move (.t 21), none⟩,
                      ⟨(some 86), .indexAddr 3 (.t 84) (.t 85), none⟩,
                      ⟨(some 87), .load true 3 (.t 86), none⟩,
                      ⟨(some 88), .buildSlice 3 1 [(.int .i64 0), (.int .i64 0), (.str (bs []))] [(0, (.t 87))], none⟩,
                      ⟨(some 89), .append 3 32 [(.int .i64 0), (.int .i64 0), (.str (bs []))] (.t 83) (.t 88), none⟩,
                      ⟨(some 22), .move (.t 89), none⟩])))
                  (.region [
                    ⟨(some 90), .bin .add (.t 79) (.c (.int .i64 1)), none⟩,
                    ⟨(some 79), .move (.t 90), none⟩])))))))
              (.region [
                ⟨(some 91), .move (.t 15), none⟩,
                ⟨(some 92), .move (.t 22), none⟩,
                ⟨(some 93), .build [.nil, (.int .i64 0)] [(0, 1, (.t 92)), (1, 1, (.c (.int .i64 1)))], none⟩,
                ⟨(some 94), .buildSliceO 2 1 [.nil, (.int .i64 0)] [(0, (.t 93))], none⟩,
                ⟨(some 95), .append 2 32 [.nil, (.int .i64 0)] (.t 91) (.t 94), none⟩,
                ⟨(some 15), .move (.t 95), none⟩])))))
            (.region [
              ⟨(some 96), .bin .add (.t 70) (.c (.int .i64 1)), none⟩,
              ⟨(some 70), .move (.t 96), none⟩])))))))))))
      (.region [
        ⟨(some 97), .bin .add (.t 45) (.c (.int .i64 1)), none⟩,
        ⟨(some 45), .move (.t 97), none⟩]))))))
  .ghost))
  (.seq
  (.region [
    ⟨(some 98), .move (.t 15), none⟩,
    ⟨(some 99), .call f_bag_Normalize [(.t 98)], none⟩,
    ⟨(some 100), .extract (.t 99) 0, none⟩,
    ⟨(some 101), .extract (.t 99) 1, none⟩,
    ⟨(some 10), .move (.t 100), none⟩,
    ⟨(some 11), .move (.t 101), none⟩])
  .ret)))))))⟩

structure F_window_Apply (P : Program) where
  id : FuncId
  bag_Expand : F_bag_Expand P
  window_check : F_window_check P
  window_partitions : F_window_partitions P
  window_column : F_window_column P
  slices_Clone_LValue_Value : F_slices_Clone_LValue_Value P
  bag_Normalize : F_bag_Normalize P
  has : Has P id [94, 200000] (c_window_Apply bag_Expand.id window_check.id window_partitions.id window_column.id slices_Clone_LValue_Value.id bag_Normalize.id)

def c_warehouselaw18_known (f_window_Apply : FuncId) : AFunc := ⟨76, [.tmp 0],
  (.seq
  (.region [
    ⟨(some 0), .move (.c (.bool false)), none⟩])
  (.seq
  (.region [
    ⟨(some 4), .build [(.int .i64 0), (.int .i64 0), (.str (bs []))] [(0, 1, (.c (.int .i64 2))), (1, 1, (.c (.int .i64 1)))], none⟩,
    ⟨(some 5), .buildSlice 3 1 [(.int .i64 0), (.int .i64 0), (.str (bs []))] [(0, (.t 4))], none⟩,
    ⟨(some 6), .build [.nil, (.int .i64 0)] [(0, 1, (.t 5)), (1, 1, (.c (.int .i64 2)))], none⟩,
    ⟨(some 7), .build [(.int .i64 0), (.int .i64 0), (.str (bs []))] [(0, 1, (.c (.int .i64 2))), (1, 1, (.c (.int .i64 2)))], none⟩,
    ⟨(some 8), .buildSlice 3 1 [(.int .i64 0), (.int .i64 0), (.str (bs []))] [(0, (.t 7))], none⟩,
    ⟨(some 9), .build [.nil, (.int .i64 0)] [(0, 1, (.t 8)), (1, 1, (.c (.int .i64 1)))], none⟩,
    ⟨(some 10), .buildSlice 2 2 [.nil, (.int .i64 0)] [(0, (.t 6)), (1, (.t 9))], none⟩,
    ⟨(some 1), .move (.t 10), none⟩])
  (.seq
  (.region [
    ⟨(some 12), .build [(.str (bs [])), (.int .i64 0), (.str (bs [])), (.int .i64 0), .nil] [(1, 1, (.c (.int .i64 9)))], none⟩,
    ⟨(some 13), .build [(.str (bs [])), (.int .i64 0), (.str (bs [])), (.int .i64 0), .nil] [(1, 1, (.c (.int .i64 8)))], none⟩,
    ⟨(some 14), .buildSlice 5 2 [(.str (bs [])), (.int .i64 0), (.str (bs [])), (.int .i64 0), .nil] [(0, (.t 12)), (1, (.t 13))], none⟩,
    ⟨(some 15), .buildSlice 1 1 [(.int .i64 0)] [(0, (.c (.int .i64 0)))], none⟩,
    ⟨(some 16), .buildSlice 1 2 [(.int .i64 0)] [(0, (.c (.int .i64 (-1)))), (1, (.c (.int .i64 (-1))))], none⟩,
    ⟨(some 17), .move (.t 1), none⟩,
    ⟨(some 18), .call f_window_Apply [(.t 14), (.c .nil), (.t 15), (.t 16), (.t 17)], none⟩,
    ⟨(some 11), .move (.t 18), none⟩,
    ⟨(some 19), .extract (.t 11) 0, none⟩,
    ⟨(some 20), .extract (.t 11) 1, none⟩,
    ⟨(some 2), .move (.t 19), none⟩,
    ⟨(some 3), .move (.t 20), none⟩])
  (.seq
  (.region [
    ⟨(some 21), .move (.t 3), none⟩,
    ⟨(some 22), .bin .eql (.t 21) (.c (.int .i64 0)), none⟩,
    ⟨(some 23), .move (.t 22), none⟩,
    ⟨(some 24), .move (.t 2), some (some 23, true)⟩,
    ⟨(some 25), .len (.t 24), some (some 23, true)⟩,
    ⟨(some 26), .bin .eql (.t 25) (.c (.int .i64 3)), some (some 23, true)⟩,
    ⟨(some 27), .pick (.t 23) (.t 26) (.c (.bool false)), none⟩,
    ⟨(some 28), .move (.t 27), none⟩,
    ⟨(some 29), .move (.t 2), some (some 28, true)⟩,
    ⟨(some 30), .indexAddr 2 (.t 29) (.c (.int .i64 2)), some (some 28, true)⟩,
    ⟨(some 31), .fieldAddr 0 (.t 30), some (some 28, true)⟩,
    ⟨(some 32), .load false 1 (.t 31), some (some 28, true)⟩,
    ⟨(some 33), .len (.t 32), some (some 28, true)⟩,
    ⟨(some 34), .bin .eql (.t 33) (.c (.int .i64 3)), some (some 28, true)⟩,
    ⟨(some 35), .pick (.t 28) (.t 34) (.c (.bool false)), none⟩,
    ⟨(some 36), .move (.t 35), none⟩,
    ⟨(some 37), .move (.t 2), some (some 36, true)⟩,
    ⟨(some 38), .indexAddr 2 (.t 37) (.c (.int .i64 0)), some (some 36, true)⟩,
    ⟨(some 39), .fieldAddr 0 (.t 38), some (some 36, true)⟩,
    ⟨(some 40), .load false 1 (.t 39), some (some 36, true)⟩,
    ⟨(some 41), .indexAddr 3 (.t 40) (.c (.int .i64 1)), some (some 36, true)⟩,
    ⟨(some 42), .fieldAddr 1 (.t 41), some (some 36, true)⟩,
    ⟨(some 43), .load false 1 (.t 42), some (some 36, true)⟩,
    ⟨(some 44), .bin .eql (.t 43) (.c (.int .i64 1)), some (some 36, true)⟩,
    ⟨(some 45), .pick (.t 36) (.t 44) (.c (.bool false)), none⟩,
    ⟨(some 46), .move (.t 45), none⟩,
    ⟨(some 47), .move (.t 2), some (some 46, true)⟩,
    ⟨(some 48), .indexAddr 2 (.t 47) (.c (.int .i64 1)), some (some 46, true)⟩,
    ⟨(some 49), .fieldAddr 0 (.t 48), some (some 46, true)⟩,
    ⟨(some 50), .load false 1 (.t 49), some (some 46, true)⟩,
    ⟨(some 51), .indexAddr 3 (.t 50) (.c (.int .i64 1)), some (some 46, true)⟩,
    ⟨(some 52), .fieldAddr 1 (.t 51), some (some 46, true)⟩,
    ⟨(some 53), .load false 1 (.t 52), some (some 46, true)⟩,
    ⟨(some 54), .bin .eql (.t 53) (.c (.int .i64 1)), some (some 46, true)⟩,
    ⟨(some 55), .pick (.t 46) (.t 54) (.c (.bool false)), none⟩,
    ⟨(some 56), .move (.t 55), none⟩,
    ⟨(some 57), .move (.t 2), some (some 56, true)⟩,
    ⟨(some 58), .indexAddr 2 (.t 57) (.c (.int .i64 1)), some (some 56, true)⟩,
    ⟨(some 59), .fieldAddr 0 (.t 58), some (some 56, true)⟩,
    ⟨(some 60), .load false 1 (.t 59), some (some 56, true)⟩,
    ⟨(some 61), .indexAddr 3 (.t 60) (.c (.int .i64 2)), some (some 56, true)⟩,
    ⟨(some 62), .fieldAddr 1 (.t 61), some (some 56, true)⟩,
    ⟨(some 63), .load false 1 (.t 62), some (some 56, true)⟩,
    ⟨(some 64), .bin .eql (.t 63) (.c (.int .i64 2)), some (some 56, true)⟩,
    ⟨(some 65), .pick (.t 56) (.t 64) (.c (.bool false)), none⟩,
    ⟨(some 66), .move (.t 65), none⟩,
    ⟨(some 67), .move (.t 2), some (some 66, true)⟩,
    ⟨(some 68), .indexAddr 2 (.t 67) (.c (.int .i64 2)), some (some 66, true)⟩,
    ⟨(some 69), .fieldAddr 0 (.t 68), some (some 66, true)⟩,
    ⟨(some 70), .load false 1 (.t 69), some (some 66, true)⟩,
    ⟨(some 71), .indexAddr 3 (.t 70) (.c (.int .i64 1)), some (some 66, true)⟩,
    ⟨(some 72), .fieldAddr 1 (.t 71), some (some 66, true)⟩,
    ⟨(some 73), .load false 1 (.t 72), some (some 66, true)⟩,
    ⟨(some 74), .bin .eql (.t 73) (.c (.int .i64 3)), some (some 66, true)⟩,
    ⟨(some 75), .pick (.t 66) (.t 74) (.c (.bool false)), none⟩,
    ⟨(some 0), .move (.t 75), none⟩])
  .ret))))⟩

structure F_warehouselaw18_known (P : Program) where
  id : FuncId
  window_Apply : F_window_Apply P
  has : Has P id [] (c_warehouselaw18_known window_Apply.id)

def c_warehousebase_Rows (f_warehousebase_At : FuncId) (f_warehousebase_Row : FuncId) (f_warehouseref6_Normalize : FuncId) : AFunc := ⟨46, [.tmp 6],
  (.seq
  (.region [
    ⟨(some 6), .move (.c .nil), none⟩])
  (.seq
  (.region [
    ⟨(some 7), .move (.c .nil), none⟩])
  (.seq
  (.seq
  (.region [
    ⟨(some 8), .move (.c (.int .i64 0)), none⟩])
  (.seq
  (.block 0
    (.loop
      (.seq
      (.seq
      (.region [
        ⟨(some 13), .move (.t 8), none⟩,
        ⟨(some 14), .move (.t 2), none⟩,
        ⟨(some 15), .bin .lss (.t 13) (.t 14), none⟩])
      (.cond (.t 15)
        .skip
        (.exit 0)))
      (.seq
      (.block 1
        (.seq
        (.region [
          ⟨(some 9), .move (.c (.int .i64 1)), none⟩])
        (.seq
        (.seq
        (.region [
          ⟨(some 18), .move (.t 1), none⟩,
          ⟨(some 19), .move (.t 8), none⟩,
          ⟨(some 20), .bin .mul (.c (.int .i64 5)) (.t 19), none⟩,
          ⟨(some 21), .bin .add (.t 20) (.c (.int .i64 4)), none⟩,
          ⟨(some 22), .call f_warehousebase_At [(.t 18), (.t 21)], none⟩,
          ⟨(some 10), .move (.t 22), none⟩])
        (.seq
        (.region [
          ⟨(some 23), .move (.t 10), none⟩,
          ⟨(some 24), .bin .rem (.t 23) (.c (.int .i64 5)), none⟩,
          ⟨(some 25), .bin .eql (.t 24) (.c (.int .i64 0)), none⟩])
        (.cond (.t 25)
          (.region [
            ⟨(some 26), .move (.t 10), none⟩,
            ⟨(some 27), .bin .quo (.t 26) (.c (.int .i64 5)), none⟩,
            ⟨(some 28), .bin .rem (.t 27) (.c (.int .i64 3)), none⟩,
            ⟨(some 29), .bin .add (.c (.int .i64 1)) (.t 28), none⟩,
            ⟨(some 9), .move (.t 29), none⟩])
          .skip)))
        (.region [
          ⟨(some 30), .move (.t 7), none⟩,
          ⟨(some 31), .move (.t 0), none⟩,
          ⟨(some 32), .move (.t 1), none⟩,
          ⟨(some 33), .move (.t 8), none⟩,
          ⟨(some 34), .bin .mul (.c (.int .i64 5)) (.t 33), none⟩,
          ⟨(some 35), .call f_warehousebase_Row [(.t 31), (.t 32), (.t 34)], none⟩,
          ⟨(some 36), .move (.t 9), none⟩,
          ⟨(some 37), .build [.nil, (.int .i64 0)] [(0, 1, (.t 35)), (1, 1, (.t 36))], none⟩,
          ⟨(some 38), .buildSlice 2 1 [.nil, (.int .i64 0)] [(0, (.t 37))], none⟩,
          ⟨(some 39), .append 2 32 [.nil, (.int .i64 0)] (.t 30) (.t 38), none⟩,
          ⟨(some 7), .move (.t 39), none⟩]))))
      (.region [
        ⟨(some 16), .move (.t 8), none⟩,
        ⟨(some 17), .bin .add (.t 16) (.c (.int .i64 1)), none⟩,
        ⟨(some 8), .move (.t 17), none⟩])))))
  .ghost))
  (.seq
  (.region [
    ⟨(some 41), .move (.t 7), none⟩,
    ⟨(some 42), .call f_warehouseref6_Normalize [(.t 41)], none⟩,
    ⟨(some 40), .move (.t 42), none⟩,
    ⟨(some 43), .extract (.t 40) 0, none⟩,
    ⟨(some 44), .extract (.t 40) 1, none⟩,
    ⟨(some 11), .move (.t 43), none⟩,
    ⟨(some 12), .move (.t 44), none⟩])
  (.seq
  (.region [
    ⟨(some 45), .move (.t 11), none⟩,
    ⟨(some 6), .move (.t 45), none⟩])
  .ret)))))⟩

structure F_warehousebase_Rows (P : Program) where
  id : FuncId
  warehousebase_At : F_warehousebase_At P
  warehousebase_Row : F_warehousebase_Row P
  warehouseref6_Normalize : F_warehouseref6_Normalize P
  has : Has P id [200000] (c_warehousebase_Rows warehousebase_At.id warehousebase_Row.id warehouseref6_Normalize.id)

def c_warehouselaw18_table (f_warehousebase_Rows : FuncId) : AFunc := ⟨12, [.tmp 4],
  (.seq
  (.region [
    ⟨(some 4), .move (.c .nil), none⟩])
  (.seq
  (.region [
    ⟨(some 5), .build [(.str (bs [])), (.int .i64 0), (.bool false)] [(0, 1, (.c (.str (bs [97])))), (1, 1, (.c (.int .i64 2))), (2, 1, (.c (.bool true)))], none⟩,
    ⟨(some 6), .build [(.str (bs [])), (.int .i64 0), (.bool false)] [(0, 1, (.c (.str (bs [98])))), (1, 1, (.c (.int .i64 3)))], none⟩,
    ⟨(some 7), .build [(.str (bs [])), (.int .i64 0), (.bool false)] [(0, 1, (.c (.str (bs [99])))), (1, 1, (.c (.int .i64 2))), (2, 1, (.c (.bool true)))], none⟩,
    ⟨(some 8), .buildSlice 3 3 [(.str (bs [])), (.int .i64 0), (.bool false)] [(0, (.t 5)), (1, (.t 6)), (2, (.t 7))], none⟩,
    ⟨(some 9), .move (.t 0), none⟩,
    ⟨(some 10), .move (.t 1), none⟩,
    ⟨(some 11), .call f_warehousebase_Rows [(.t 8), (.t 9), (.t 10)], none⟩,
    ⟨(some 4), .move (.t 11), none⟩])
  .ret))⟩

structure F_warehouselaw18_table (P : Program) where
  id : FuncId
  warehousebase_Rows : F_warehousebase_Rows P
  has : Has P id [] (c_warehouselaw18_table warehousebase_Rows.id)

def c_warehouselaw18_places : AFunc := ⟨15, [.tmp 2],
  (.seq
  (.region [
    ⟨(some 2), .move (.c .nil), none⟩])
  (.seq
  (.region [
    ⟨(some 3), .buildSlice 1 1 [(.int .i64 0)] [(0, (.c (.int .i64 0)))], none⟩,
    ⟨(some 4), .buildSlice 1 1 [(.int .i64 0)] [(0, (.c (.int .i64 1)))], none⟩,
    ⟨(some 5), .buildSlice 1 1 [(.int .i64 0)] [(0, (.c (.int .i64 2)))], none⟩,
    ⟨(some 6), .buildSlice 1 2 [(.int .i64 0)] [(0, (.c (.int .i64 0))), (1, (.c (.int .i64 1)))], none⟩,
    ⟨(some 7), .buildSlice 1 2 [(.int .i64 0)] [(0, (.c (.int .i64 1))), (1, (.c (.int .i64 2)))], none⟩,
    ⟨(some 8), .buildSlice 1 2 [(.int .i64 0)] [(0, (.c (.int .i64 2))), (1, (.c (.int .i64 0)))], none⟩,
    ⟨(some 9), .buildSlice 1 2 [(.int .i64 0)] [(0, (.c (.int .i64 1))), (1, (.c (.int .i64 7)))], none⟩,
    ⟨(some 10), .buildSlice 1 8 [.nil] [(0, (.c .nil)), (1, (.t 3)), (2, (.t 4)), (3, (.t 5)), (4, (.t 6)), (5, (.t 7)), (6, (.t 8)), (7, (.t 9))], none⟩,
    ⟨(some 11), .move (.t 0), none⟩,
    ⟨(some 12), .bin .and (.t 11) (.c (.int .i64 7)), none⟩,
    ⟨(some 13), .indexAddr 1 (.t 10) (.t 12), none⟩,
    ⟨(some 14), .load false 1 (.t 13), none⟩,
    ⟨(some 2), .move (.t 14), none⟩])
  .ret))⟩

structure F_warehouselaw18_places (P : Program) where
  id : FuncId
  has : Has P id [] c_warehouselaw18_places

def c_warehouselaw18_WindowMirrors (f_warehouselaw18_table : FuncId) (f_warehouselaw18_places : FuncId) (f_window_Apply : FuncId) (f_warehouselaw18_known : FuncId) : AFunc := ⟨116, [.tmp 4],
  (.seq
  (.region [
    ⟨(some 4), .move (.c (.bool false)), none⟩])
  (.seq
  (.region [
    ⟨(some 11), .move (.t 0), none⟩,
    ⟨(some 12), .move (.t 1), none⟩,
    ⟨(some 13), .bin .and (.t 12) (.c (.int .i64 7)), none⟩,
    ⟨(some 14), .call f_warehouselaw18_table [(.t 11), (.t 13)], none⟩,
    ⟨(some 5), .move (.t 14), none⟩])
  (.seq
  (.region [
    ⟨(some 15), .move (.t 1), none⟩,
    ⟨(some 16), .bin .shr (.t 15) (.c (.int .u64 3)), none⟩,
    ⟨(some 17), .bin .and (.t 16) (.c (.int .i64 1)), none⟩,
    ⟨(some 18), .bin .add (.c (.int .i64 1)) (.t 17), none⟩,
    ⟨(some 6), .move (.t 18), none⟩])
  (.seq
  (.region [
    ⟨(some 20), .build [(.str (bs [])), (.int .i64 0), (.str (bs [])), (.int .i64 0), .nil] [(1, 1, (.c (.int .i64 8)))], none⟩,
    ⟨(some 21), .move (.t 6), none⟩,
    ⟨(some 22), .build [(.str (bs [])), (.int .i64 0), (.str (bs [])), (.int .i64 0), .nil] [(1, 1, (.c (.int .i64 10))), (3, 1, (.t 21))], none⟩,
    ⟨(some 23), .move (.t 6), none⟩,
    ⟨(some 24), .build [(.str (bs [])), (.int .i64 0), (.str (bs [])), (.int .i64 0), .nil] [(1, 1, (.c (.int .i64 11))), (3, 1, (.t 23))], none⟩,
    ⟨(some 25), .buildSlice 5 3 [(.str (bs [])), (.int .i64 0), (.str (bs [])), (.int .i64 0), .nil] [(0, (.t 20)), (1, (.t 22)), (2, (.t 24))], none⟩,
    ⟨(some 26), .move (.t 1), none⟩,
    ⟨(some 27), .bin .shr (.t 26) (.c (.int .u64 4)), none⟩,
    ⟨(some 28), .call f_warehouselaw18_places [(.t 27)], none⟩,
    ⟨(some 29), .buildSlice 1 3 [(.int .i64 0)] [(0, (.c (.int .i64 (-1)))), (1, (.c (.int .i64 0))), (2, (.c (.int .i64 0)))], none⟩,
    ⟨(some 30), .move (.t 5), none⟩,
    ⟨(some 31), .call f_window_Apply [(.t 25), (.c .nil), (.t 28), (.t 29), (.t 30)], none⟩,
    ⟨(some 19), .move (.t 31), none⟩,
    ⟨(some 32), .extract (.t 19) 0, none⟩,
    ⟨(some 33), .extract (.t 19) 1, none⟩,
    ⟨(some 7), .move (.t 32), none⟩,
    ⟨(some 8), .move (.t 33), none⟩])
  (.seq
  (.seq
  (.region [
    ⟨(some 34), .move (.t 8), none⟩,
    ⟨(some 35), .bin .neq (.t 34) (.c (.int .i64 0)), none⟩])
  (.cond (.t 35)
    (.seq
    (.region [
      ⟨(some 4), .move (.c (.bool false)), none⟩])
    .ret)
    .skip))
  (.seq
  (.seq
  (.region [
    ⟨(some 9), .move (.c (.int .i64 0)), none⟩])
  (.block 0
    (.loop
      (.seq
      (.seq
      (.region [
        ⟨(some 36), .move (.t 9), none⟩,
        ⟨(some 37), .move (.t 7), none⟩,
        ⟨(some 38), .len (.t 37), none⟩,
        ⟨(some 39), .bin .lss (.t 36) (.t 38), none⟩])
      (.cond (.t 39)
        .skip
        (.exit 0)))
      (.seq
      (.block 1
        (.seq
        (.seq
        (.region [
          ⟨(some 42), .move (.t 7), none⟩,
          ⟨(some 43), .move (.t 9), none⟩,
          ⟨(some 44), .indexAddr 2 (.t 42) (.t 43), none⟩,
          ⟨(some 45), .fieldAddr 0 (.t 44), none⟩,
          ⟨(some 46), .load false 1 (.t 45), none⟩,
          ⟨(some 47), .len (.t 46), none⟩,
          ⟨(some 48), .bin .neq (.t 47) (.c (.int .i64 6)), none⟩])
        (.cond (.t 48)
          (.seq
          (.region [
            ⟨(some 4), .move (.c (.bool false)), none⟩])
          .ret)
          .skip))
        (.seq
        (.region [
          ⟨(some 10), .move (.c (.int .i64 0)), none⟩])
        (.block 2
          (.loop
            (.seq
            (.seq
            (.region [
              ⟨(some 49), .move (.t 10), none⟩,
              ⟨(some 50), .move (.t 7), none⟩,
              ⟨(some 51), .len (.t 50), none⟩,
              ⟨(some 52), .bin .lss (.t 49) (.t 51), none⟩])
            (.cond (.t 52)
              .skip
              (.exit 2)))
            (.seq
            (.block 3
              (.seq
              (.seq
              (.draw [
                (⟨(some 55), .move (.t 7), none⟩, []),
                (⟨(some 56), .move (.t 10), none⟩, []),
                (⟨(some 57), .indexAddr 2 (.t 55) (.t 56), none⟩, []),
                (⟨(some 58), .fieldAddr 0 (.t 57), none⟩, []),
                (⟨(some 59), .load false 1 (.t 58), none⟩, []),
                (⟨(some 60), .len (.t 59), none⟩, []),
                (⟨(some 61), .bin .neq (.t 60) (.c (.int .i64 6)), none⟩, []),
                (⟨(some 62), .move (.t 61), none⟩, []),
                (⟨(some 63), .move (.t 7), some (some 62, false)⟩, []),
                (⟨(some 64), .move (.t 10), some (some 62, false)⟩, []),
                (⟨(some 65), .indexAddr 2 (.t 63) (.t 64), some (some 62, false)⟩, []),
                (⟨(some 66), .fieldAddr 0 (.t 65), some (some 62, false)⟩, []),
                (⟨(some 67), .load false 1 (.t 66), some (some 62, false)⟩, []),
                (⟨(some 68), .indexAddr 3 (.t 67) (.c (.int .i64 3)), some (some 62, false)⟩, []),
                (⟨(some 69), .fieldAddr 1 (.t 68), some (some 62, false)⟩, []),
                (⟨(some 70), .load false 1 (.t 69), some (some 62, false)⟩, []),
                (⟨(some 71), .move (.t 7), some (some 62, false)⟩, []),
                (⟨(some 72), .move (.t 9), some (some 62, false)⟩, []),
                (⟨(some 73), .indexAddr 2 (.t 71) (.t 72), some (some 62, false)⟩, []),
                (⟨(some 74), .fieldAddr 0 (.t 73), some (some 62, false)⟩, []),
                (⟨(some 75), .load false 1 (.t 74), some (some 62, false)⟩, []),
                (⟨(some 76), .indexAddr 3 (.t 75) (.c (.int .i64 3)), some (some 62, false)⟩, []),
                (⟨(some 77), .fieldAddr 1 (.t 76), some (some 62, false)⟩, []),
                (⟨(some 78), .load false 1 (.t 77), some (some 62, false)⟩, []),
                (⟨(some 79), .bin .sub (.t 70) (.t 78), some (some 62, false)⟩, []),
                (⟨(some 80), .move (.t 6), some (some 62, false)⟩, []),
                (⟨(some 81), .bin .neq (.t 79) (.t 80), some (some 62, false)⟩, []),
                (⟨(some 82), .pick (.t 62) (.c (.bool true)) (.t 81), none⟩, [])])
              (.cond (.t 82)
                (.exit 3)
                .skip))
              (.seq
              (.draw [
                (⟨(some 83), .move (.t 7), none⟩, []),
                (⟨(some 84), .move (.t 9), none⟩, []),
                (⟨(some 85), .indexAddr 2 (.t 83) (.t 84), none⟩, []),
                (⟨(some 86), .fieldAddr 0 (.t 85), none⟩, []),
                (⟨(some 87), .load false 1 (.t 86), none⟩, []),
                (⟨(some 88), .indexAddr 3 (.t 87) (.c (.int .i64 5)), none⟩, []),
                (⟨(some 89), .load true 3 (.t 88), none⟩, []),
                (⟨(some 90), .move (.t 7), none⟩, []),
                (⟨(some 91), .move (.t 10), none⟩, []),
                (⟨(some 92), .indexAddr 2 (.t 90) (.t 91), none⟩, []),
                (⟨(some 93), .fieldAddr 0 (.t 92), none⟩, []),
                (⟨(some 94), .load false 1 (.t 93), none⟩, []),
                (⟨(some 95), .indexAddr 3 (.t 94) (.c (.int .i64 0)), none⟩, []),
                (⟨(some 96), .load true 3 (.t 95), none⟩, []),
                (⟨(some 97), .eqs true [1, 1, 2] (.t 89) (.t 96), none⟩, []),
                (⟨(some 98), .move (.t 97), none⟩, []),
                (⟨(some 99), .move (.t 7), some (some 98, false)⟩, []),
                (⟨(some 100), .move (.t 10), some (some 98, false)⟩, []),
                (⟨(some 101), .indexAddr 2 (.t 99) (.t 100), some (some 98, false)⟩, []),
                (⟨(some 102), .fieldAddr 0 (.t 101), some (some 98, false)⟩, []),
                (⟨(some 103), .load false 1 (.t 102), some (some 98, false)⟩, []),
                (⟨(some 104), .indexAddr 3 (.t 103) (.c (.int .i64 4)), some (some 98, false)⟩, []),
                (⟨(some 105), .load true 3 (.t 104), some (some 98, false)⟩, []),
                (⟨(some 106), .move (.t 7), some (some 98, false)⟩, []),
                (⟨(some 107), .move (.t 9), some (some 98, false)⟩, []),
                (⟨(some 108), .indexAddr 2 (.t 106) (.t 107), some (some 98, false)⟩, []),
                (⟨(some 109), .fieldAddr 0 (.t 108), some (some 98, false)⟩, []),
                (⟨(some 110), .load false 1 (.t 109), some (some 98, false)⟩, []),
                (⟨(some 111), .indexAddr 3 (.t 110) (.c (.int .i64 0)), some (some 98, false)⟩, []),
                (⟨(some 112), .load true 3 (.t 111), some (some 98, false)⟩, []),
                (⟨(some 113), .eqs true [1, 1, 2] (.t 105) (.t 112), some (some 98, false)⟩, []),
                (⟨(some 114), .pick (.t 98) (.c (.bool true)) (.t 113), none⟩, [])])
              (.cond (.t 114)
                (.seq
                (.region [
                  ⟨(some 4), .move (.c (.bool false)), none⟩])
                .ret)
                .skip))))
            (.region [
              ⟨(some 53), .move (.t 10), none⟩,
              ⟨(some 54), .bin .add (.t 53) (.c (.int .i64 1)), none⟩,
              ⟨(some 10), .move (.t 54), none⟩]))))))))
      (.region [
        ⟨(some 40), .move (.t 9), none⟩,
        ⟨(some 41), .bin .add (.t 40) (.c (.int .i64 1)), none⟩,
        ⟨(some 9), .move (.t 41), none⟩]))))))
  (.seq
  (.region [
    ⟨(some 115), .call f_warehouselaw18_known [], none⟩,
    ⟨(some 4), .move (.t 115), none⟩])
  .ret)))))))⟩

structure F_warehouselaw18_WindowMirrors (P : Program) where
  id : FuncId
  warehouselaw18_table : F_warehouselaw18_table P
  warehouselaw18_places : F_warehouselaw18_places P
  window_Apply : F_window_Apply P
  warehouselaw18_known : F_warehouselaw18_known P
  has : Has P id [] (c_warehouselaw18_WindowMirrors warehouselaw18_table.id warehouselaw18_places.id window_Apply.id warehouselaw18_known.id)

end Go.AW

namespace Go.AW
variable [Draws]
open Go.RowKit
inductive Sh where
  | bool
  | int (k : IntKind)
  | str
  | slice (fs : List Sh)

def shapeFields (P : Program) (sh : TypeId → Option (List Sh)) : List Field → Nat → Option (List Sh)
  | [], _ => some []
  | f :: r, off => if f.offset = off then match sh f.type, shapeFields P sh r (off + P.cellsOf f.type) with
      | some a, some b => if a.length = P.cellsOf f.type then some (a ++ b) else none
      | _, _ => none
    else none

def shapeOf (P : Program) : Nat → TypeId → Option (List Sh)
  | 0, _ => none
  | n + 1, t => match P.underlying t with
    | some .bool => some [.bool]
    | some (.int k) => some [.int k]
    | some .string => some [.str]
    | some (.slice e) => match shapeOf P n e with
      | some l => if l.length = P.cellsOf e ∧ P.cellsOf e ≠ 0 then some [.slice l] else none
      | none => none
    | some (.struct fs) => match shapeFields P (shapeOf P n) fs.toList 0 with
      | some l => if l.length = P.cellsOf t then some l else none
      | none => none
    | _ => none

inductive ShOk : Sh → AVal → Prop where
  | bool (b : Bool) : ShOk .bool (.bool b)
  | int (k : IntKind) (n : Int) (h : (Lit.int k n).wf = true) : ShOk (.int k) (.int k n)
  | str (s : ByteArray) (h : s.size ≤ maxLen) : ShOk .str (.str s)
  | list (fs : List Sh) (es : List (List AVal)) (hb : es.length ≤ maxLen) (hl : ∀ e ∈ es, e.length = fs.length)
      (h : ∀ (e : List AVal) (i : Nat) (f : Sh) (d : AVal), e ∈ es → fs[i]? = some f → e[i]? = some d → ShOk f d) : ShOk (.slice fs) (.list false fs.length es)

def allC (w : World) (b : Nat) : Nat :=
  match w.heap[b]? with
  | some (.cells cells _ _) => cells.size
  | _ => 0

theorem allC_cell {w : World} {b i : Nat} {v : Value} (h : w.cell? ⟨b, i, none⟩ = some v) : i < allC w b := by
  unfold World.cell? at h
  unfold allC
  simp only [] at h
  split at h
  · rename_i hh
    rw [hh]
    simp only []
    exact (Array.getElem?_eq_some_iff.1 h).1
  · cases h

theorem ShOk.isCell {s : Sh} {a : AVal} (h : ShOk s a) : a.isCell = true := by cases h <;> rfl

section
variable {H : Type} {enc : TypeId × Value → H} {P : Program} {w : World} {spare : Nat → Bool} {held : Bool}
theorem cells?_get {a : Addr} {n : Nat} {cs : List Value} (h : w.cells? 0 a n = some cs) : cs.length = n ∧ ∀ i, i < n → w.cell? (a.add i) = cs[i]? := by
  unfold World.cells? at h
  rw [if_pos (Nat.zero_le _)] at h
  exact ⟨by simpa using Go.mapM_some_length h, fun i hi => Go.mapM_some_get h i i (by simp [hi])⟩

def RdAll (w : World) (shs : List Sh) (cs : List Value) : Prop :=
  ∃ asv : List AVal, asv.length = cs.length ∧ shs.length = cs.length ∧ (∀ (i : Nat) (s : Sh) (a : AVal), shs[i]? = some s → asv[i]? = some a → ShOk s a) ∧
    ∀ (i : Nat) (a : AVal) (c : Value), asv[i]? = some a → cs[i]? = some c → Rd (allC w) w a c

theorem RdAll.one {s : Sh} {a : AVal} {c : Value} (h : ShOk s a) (hr : Rd (allC w) w a c) : RdAll w [s] [c] := by
  refine ⟨[a], rfl, rfl, fun i s' a' h1 h2 => ?_, fun i a' c' h1 h2 => ?_⟩
  · cases i with
    | zero => simp at h1 h2; subst h1 h2; exact h
    | succ i => simp at h1
  · cases i with
    | zero => simp at h1 h2; subst h1 h2; exact hr
    | succ i => simp at h1

theorem RdAll.append {s1 s2 : List Sh} {c1 c2 : List Value} (h1 : RdAll w s1 c1) (h2 : RdAll w s2 c2) : RdAll w (s1 ++ s2) (c1 ++ c2) := by
  obtain ⟨a1, l1, m1, o1, r1⟩ := h1
  obtain ⟨a2, l2, m2, o2, r2⟩ := h2
  refine ⟨a1 ++ a2, by simp [l1, l2], by simp [m1, m2], fun i s a hs ha => ?_, fun i a c ha hc => ?_⟩
  · by_cases hi : i < c1.length
    · rw [List.getElem?_append_left (by omega)] at hs ha
      exact o1 i s a hs ha
    · rw [List.getElem?_append_right (by omega)] at hs ha
      rw [m1] at hs; rw [l1] at ha
      exact o2 _ s a hs ha
  · by_cases hi : i < c1.length
    · rw [List.getElem?_append_left (by omega)] at ha hc
      exact r1 i a c ha hc
    · rw [List.getElem?_append_right (by omega)] at ha hc
      rw [l1] at ha
      exact r2 _ a c ha hc

theorem RdAll.nil : RdAll w [] [] := ⟨[], rfl, rfl, fun i s a h => by simp at h, fun i a c h => by simp at h⟩

theorem open_fields {sh : TypeId → Option (List Sh)} (tr : Field → List Value → Prop) (htr : ∀ (f : Field) (cs : List Value) (l : List Sh), tr f cs → sh f.type = some l → RdAll w l cs) (cs : List Value) :
    ∀ (fs : List Field) (off : Nat) (l : List Sh), shapeFields P sh fs off = some l → (∀ f ∈ fs, tr f ((cs.drop f.offset).take (P.cellsOf f.type))) → off + l.length = cs.length → RdAll w l (cs.drop off)
  | [], off, l, h, _, hl => by
    simp only [shapeFields, Option.some.injEq] at h; subst h
    have : cs.drop off = [] := List.drop_eq_nil_of_le (by simp at hl; omega)
    rw [this]; exact .nil
  | f :: r, off, l, h, ht, hl => by
    simp only [shapeFields] at h
    split at h
    case isFalse => cases h
    rename_i ho
    split at h
    case h_2 => cases h
    rename_i a b h1 h2
    split at h
    case isFalse => cases h
    rename_i hlen
    cases h
    have hf := htr f _ _ (ht f (by simp)) h1
    have hr := open_fields tr htr cs r _ _ h2 (fun g hg => ht g (by simp [hg])) (by simp at hl; omega)
    rw [ho] at hf
    have := hf.append hr
    rwa [← List.drop_drop, List.take_append_drop] at this

theorem open_shape : ∀ (n : Nat) (fuel : Nat) (t : TypeId) (cs : List Value) (x : DataW H × List MemPlace) (l : List Sh), shapeOf P n t = some l → DataW.trod enc P w 0 spare held fuel t cs = some x → RdAll w l cs
  | 0, _, _, _, _, _, h, _ => by simp [shapeOf] at h
  | n + 1, fuel, t, cs, x, l, h, ht => by
    unfold shapeOf at h
    split at h
    · rename_i hu
      cases h
      cases fuel with
      | zero => simp [DataW.trod] at ht
      | succ m =>
        unfold DataW.trod at ht
        rw [hu] at ht
        split at ht <;> simp_all
        exact .one (.bool _) (.bool _)
    · rename_i k hu
      cases h
      cases fuel with
      | zero => simp [DataW.trod] at ht
      | succ m =>
        unfold DataW.trod at ht
        rw [hu] at ht
        split at ht <;> simp_all
        obtain ⟨⟨rfl, hw⟩, _⟩ := ht
        exact .one (.int _ _ hw) (.int _ _)
    · rename_i hu
      cases h
      cases fuel with
      | zero => simp [DataW.trod] at ht
      | succ m =>
        unfold DataW.trod at ht
        rw [hu] at ht
        split at ht <;> simp_all
        exact .one (.str _ ht.1) (.str _)
    · rename_i e hu
      split at h
      case h_2 => cases h
      rename_i fs hfs
      split at h
      case isFalse => cases h
      rename_i hlen'
      cases h
      have hlen := hlen'.1
      rcases DataW.trod_slice hu ht with ⟨rfl, _⟩ | ⟨a, len, cap, elems, rest, m, rfl, rfl, _, _, hl, hm, hel, hcell, _, _⟩
      · have hes : ShOk (.slice fs) (.list false fs.length []) := .list fs [] (Nat.zero_le _) (by simp) (by simp)
        exact .one hes (.list0 _ _ _ _ (by simp))
      · obtain ⟨b, off, spot⟩ := a
        have each : ∀ i, i < len → ∃ cells, w.cells? 0 ((Addr.mk b off spot).add (i * P.cellsOf e)) (P.cellsOf e) = some cells ∧ RdAll w fs cells := by
          intro i hi
          have h1 := hcell i hi
          rw [List.getElem?_eq_getElem (by omega), Option.bind_eq_some_iff] at h1
          obtain ⟨cells, h2, h3⟩ := h1
          exact ⟨cells, h2, open_shape n m e cells _ fs hfs h3⟩
        by_cases h0 : len = 0
        · subst h0
          have hes : ShOk (.slice fs) (.list false fs.length []) := .list fs [] (Nat.zero_le _) (by simp) (by simp)
          exact .one hes (.list0 _ _ _ _ (by simp))
        · by_cases hz : P.cellsOf e = 0
          · exact absurd hz hlen'.2
          · have hspot : spot = none := by
              obtain ⟨cells, h1, _⟩ := each 0 (by omega)
              obtain ⟨h2, h3⟩ := cells?_get h1
              have h4 := h3 0 (by omega)
              rw [List.getElem?_eq_getElem (by omega)] at h4
              have := World.cell?_spot h4
              simpa [Addr.add] using this
            subst hspot
            
            have hch : ∃ F : Nat → List AVal, ∀ i, i < len → (F i).length = fs.length ∧ (∀ (j : Nat) (s : Sh) (a : AVal), fs[j]? = some s → (F i)[j]? = some a → ShOk s a) ∧
                ∃ cells : List Value, cells.length = fs.length ∧ (∀ j, j < fs.length → w.cell? ⟨b, off + i * fs.length + j, none⟩ = cells[j]?) ∧ ∀ (j : Nat) (a : AVal) (c : Value), (F i)[j]? = some a → cells[j]? = some c → Rd (allC w) w a c := by
              refine ⟨fun i => if hi : i < len then Classical.choose (each i hi).choose_spec.2 else [], fun i hi => ?_⟩
              obtain ⟨h1, h2, h3, h4⟩ := Classical.choose_spec (each i hi).choose_spec.2
              have hc := (each i hi).choose_spec.1
              obtain ⟨h5, h6⟩ := cells?_get hc
              simp only [dif_pos hi]
              refine ⟨by omega, h3, (each i hi).choose, by omega, fun j hj => ?_, h4⟩
              rw [← h6 j (by omega)]
              rw [WideShapes.add_plain, WideShapes.add_plain, hlen]
            obtain ⟨F, hF⟩ := hch
            have hget : ∀ (i : Nat) (e' : List AVal), ((List.range len).map F)[i]? = some e' → i < len ∧ e' = F i := by
              intro i e' he
              by_cases hi : i < len
              · simp [hi] at he; exact ⟨hi, he.symm⟩
              · simp [hi] at he
            refine .one (a := .list false fs.length ((List.range len).map F)) (.list _ _ (by simp; omega) (fun e' he' => ?_) fun e' i f d he' hf hd => ?_) ?_
            · obtain ⟨i, hi, rfl⟩ := List.mem_map.1 he'
              exact (hF i (by simpa using hi)).1
            · obtain ⟨i', hi', rfl⟩ := List.mem_map.1 he'
              exact (hF i' (by simpa using hi')).2.1 i f d hf hd
            · have hcellv : ∀ i j, i < len → j < fs.length → ∃ v, w.cell? ⟨b, off + i * fs.length + j, none⟩ = some v := by
                intro i j hi hj
                obtain ⟨_, _, cells, h1, h2, _⟩ := hF i hi
                exact ⟨cells[j], by rw [h2 j hj, List.getElem?_eq_getElem (by omega)]⟩
              have := Rd.list (C := allC w) (w := w) false fs.length ((List.range len).map F) b off cap (fun i j => (w.cell? ⟨b, off + i * fs.length + j, none⟩).getD .nilIface) (by simp) (by simpa using hl)
                (fun e' he' => by obtain ⟨i, hi, rfl⟩ := List.mem_map.1 he'; exact (hF i (by simpa using hi)).1) ?_ ?_ ?_ ?_
              · simpa using this
              · obtain ⟨v, hv⟩ := hcellv (len - 1) (fs.length - 1) (by omega) (by omega)
                have h1 := allC_cell hv
                simp only [List.length_map, List.length_range]
                have h2 : len * fs.length = (len - 1) * fs.length + fs.length := by
                  rw [← Nat.succ_mul]; congr 1; omega
                omega
              · intro i j hi hj
                obtain ⟨v, hv⟩ := hcellv i j (by simpa using hi) hj
                rw [hv]; rfl
              · intro i j e' d he hd
                obtain ⟨hi, rfl⟩ := hget i e' he
                have hj : j < fs.length := by rw [← (hF i hi).1]; exact (List.getElem?_eq_some_iff.1 hd).1
                exact ((hF i hi).2.1 j _ d (List.getElem?_eq_getElem hj) hd).isCell
              · intro i j e' d he hd
                obtain ⟨hi, rfl⟩ := hget i e' he
                have hj : j < fs.length := by rw [← (hF i hi).1]; exact (List.getElem?_eq_some_iff.1 hd).1
                obtain ⟨_, _, cells, h1, h2, h3⟩ := hF i hi
                refine h3 j d _ hd ?_
                rw [← h2 j hj]
                obtain ⟨v, hv⟩ := hcellv i j hi hj
                rw [hv]; rfl
    · rename_i fs hu
      split at h
      case h_2 => cases h
      rename_i l' hl'
      split at h
      case isFalse => cases h
      rename_i hll
      cases h
      obtain ⟨xs, m, rfl, _, hlen, hxs, hf⟩ := DataW.trod_struct hu ht
      have := open_fields (P := P) (w := w) (sh := shapeOf P n) (fun f cs => ∃ y, DataW.trod enc P w 0 spare held m f.type cs = some y) (fun f cs l' ⟨y, hy⟩ hl => open_shape n m f.type cs y l' hl hy) cs fs.toList 0 _ hl' ?_ ?_
      · simpa using this
      · intro f hfm
        obtain ⟨i, hi, he⟩ := List.getElem_of_mem hfm
        have h1 := hf i f (by rw [← he]; simp)
        exact ⟨xs[i]'(by simp at hi; omega), by rw [h1]; exact List.getElem?_eq_getElem _⟩
      · omega
    · cases h

end
end Go.AW

namespace Go.AW
variable [Draws]
open Go.RowKit Go.ChangeShapes
def paramSh (P : Program) (n : Nat) (t : TypeId) : Option (Bool × List Sh) :=
  match P.underlying t with
  | some (.struct _) => (shapeOf P n t).map fun l => (true, l)
  | some (.array _ _) => none
  | _ => match shapeOf P n t with
    | some [s] => some (false, [s])
    | _ => none

def ArgOk : Bool × List Sh → AVal → Prop
  | (true, l), a => ∃ asv, a = .agg asv ∧ asv.length = l.length ∧ ∀ (i : Nat) (s : Sh) (c : AVal), l[i]? = some s → asv[i]? = some c → ShOk s c
  | (false, l), a => ∃ s, l = [s] ∧ ShOk s a

def ArgsOk : List (Bool × List Sh) → List AVal → Prop
  | [], [] => True
  | p :: ps, a :: asv => ArgOk p a ∧ ArgsOk ps asv
  | _, _ => False

def paramShs (P : Program) (n : Nat) : List TypeId → Option (List (Bool × List Sh))
  | [] => some []
  | t :: ts => match paramSh P n t, paramShs P n ts with
    | some p, some ps => some (p :: ps)
    | _, _ => none

section
variable {H : Type} {enc : TypeId × Value → H} {P : Program} {w : World} {τ : Nat → Option Loc}
theorem open_arg {n : Nat} {t : TypeId} {v : Value} {d : DataW H} {ps : List MemPlace} {p : Bool × List Sh} {base : Nat} (hp : paramSh P n t = some p) (hv : Value.okWide P w .any base t v)
    (h : DataW.Trod enc P w 0 (fun _ => true) true t v d ps) : ∃ a, ArgOk p a ∧ Rel (allC w) w τ [] a v := by
  obtain ⟨fuel, hf⟩ := h
  unfold paramSh at hp
  split at hp
  · rename_i fs hu
    simp only [Option.map_eq_some_iff] at hp
    obtain ⟨l, hl, rfl⟩ := hp
    obtain ⟨asv, h1, h2, h3, h4⟩ := open_shape n fuel t _ _ l hl hf
    unfold Value.okWide at hv
    rw [hu] at hv
    obtain ⟨cs, rfl, _⟩ := hv
    simp only [Value.cells] at h1 h2 h4
    exact ⟨.agg asv, ⟨asv, rfl, by omega, h3⟩, .agg asv cs (by simpa using h1) fun i c v hc hv => .rd (h4 i c v hc (by simpa using hv))⟩
  · cases hp
  · rename_i hns hna
    split at hp
    case h_2 => cases hp
    rename_i s hl
    cases hp
    obtain ⟨asv, h1, h2, h3, h4⟩ := open_shape n fuel t _ _ _ hl hf
    have hvc : v.cells.toList = [v] := by
      have : ∀ cs, v ≠ .agg cs := by
        rintro cs rfl
        unfold Value.okWide at hv
        split at hv
        · rename_i fs hu; exact hns fs hu
        · rename_i k e hu; exact hna k e hu
        · unfold Cell.okWide at hv
          split at hv <;> simp_all [Cell.ok]
      cases v <;> first | rfl | exact absurd rfl (this _)
    rw [hvc] at h1 h2 h4
    obtain ⟨a, rfl⟩ := List.length_eq_one_iff.1 h1
    exact ⟨a, ⟨s, rfl, h3 0 s a rfl rfl⟩, .rd (h4 0 a v rfl rfl)⟩

theorem open_args {n : Nat} {base : Nat} : ∀ (ts : List TypeId) (vs : List Value) (ds : List (DataW H)) (ps : List MemPlace) (shs : List (Bool × List Sh)), paramShs P n ts = some shs →
    (∀ (j : Nat) (t : TypeId) (v : Value), ts[j]? = some t → vs[j]? = some v → Value.okWide P w .any base t v) →
    DataW.TrodAll enc P w 0 (fun _ => true) true ts vs ds ps → ∃ asv, ArgsOk shs asv ∧ asv.length = vs.length ∧ ∀ (i : Nat) (a : AVal) (v : Value), asv[i]? = some a → vs[i]? = some v → Rel (allC w) w τ [] a v
  | [], vs, ds, ps, shs, hs, hv, h => by
    obtain ⟨rfl, rfl, rfl⟩ := trodAll_nil h
    simp only [paramShs, Option.some.injEq] at hs; subst hs
    exact ⟨[], trivial, rfl, fun i a v h => by simp at h⟩
  | t :: ts, vs, ds, ps, shs, hs, hv, h => by
    obtain ⟨v, vs', d, ds', p, q, rfl, rfl, rfl, h1, h2⟩ := trodAll_cons h
    simp only [paramShs] at hs
    split at hs
    case h_2 => cases hs
    rename_i sh shs' e1 e2
    cases hs
    obtain ⟨a, ha, hr⟩ := open_arg (τ := τ) e1 (hv 0 t v rfl rfl) h1
    obtain ⟨asv, has, hl, hrs⟩ := open_args ts vs' ds' q shs' e2 (fun j t' v' ht hv' => hv (j + 1) t' v' (by simpa using ht) (by simpa using hv')) h2
    refine ⟨a :: asv, ⟨ha, has⟩, by simp [hl], fun i a' v' h1 h2 => ?_⟩
    cases i with
    | zero => simp at h1 h2; subst h1 h2; exact hr
    | succ i => exact hrs i a' v' (by simpa using h1) (by simpa using h2)

theorem trodAll_below (hl : laidOutB P = true) {W W' : World} (hb : Below W.heap.size W W') : ∀ (ts : List TypeId) (vs : List Value) (ds : List (DataW H)) (ps : List MemPlace),
    (∀ t ∈ ts, P.readableRec t = true ∧ t < P.types.size) → DataW.TrodAll enc P W 0 (fun _ => true) true ts vs ds ps →
    DataW.TrodAll enc P W' 0 (fun b => decide (b < W.heap.size)) true ts vs ds ps
  | [], vs, ds, ps, _, h => by obtain ⟨rfl, rfl, rfl⟩ := trodAll_nil h; exact trodAll_mk0
  | t :: ts, vs, ds, ps, hr, h => by
    obtain ⟨v, vs', d, ds', p, q, rfl, rfl, rfl, h1, h2⟩ := trodAll_cons h
    have hlt : ∀ x ∈ p, x.block < W.heap.size := by obtain ⟨m, hm⟩ := h1; exact DataW.trod_lt m _ _ _ hm
    exact trodAll_cons_mk (Below.trod hl (hr t (by simp)).1 (hr t (by simp)).2 h1 hb hlt) (trodAll_below hl hb ts vs' ds' q (fun t' ht => hr t' (by simp [ht])) h2)

theorem calls_of_law {f : FuncId} {fn : Func} {c : Code} {args : Array Value} {asv : List AVal} (hfn : P.funcs[f]? = some fn) (hname : (fn.name == "runtime.NumGoroutine") = false) (hbody : fn.body = some c)
    (hlen : asv.length = args.size) (hrel : ∀ (i : Nat) (a : AVal) (v : Value), asv[i]? = some a → args[i]? = some v → Rel (allC w) w (fun _ => none) [] a v)
    (hlaw : ACalls P f asv [] (fun r _ => r = .bool true)) :
    Calls P f args w fun e w' => e = .returned (.bool true) ∧ Below w.heap.size w w' := by
  have hwf : WF (allC w) (fun _ => none) [] w := by
    refine ⟨fun id o h => by simp at h, fun id o h => by simp at h, fun id o l h => by simp at h, fun id l h => by simp at h, fun i j li lj h => by simp at h, fun b hb => ?_⟩
    unfold allC at hb
    split at hb
    · rename_i h
      exact lt_of_heap h
    · omega
  have h := hlaw (allC w) (fun _ => none) w args hwf hlen hrel
  have hcall : (callFunc f args).run P w = .ok (.enter f args) w := by
    simp only [callFunc, Sem.run_bind, run_program, Result.andThen_ok, hfn, hname, Bool.false_eq_true, if_false, hbody, Option.isNone_some, Sem.run_pure]
  unfold CallsX at h
  rw [hcall] at h
  refine Calls.mono h fun e w' => ?_
  rintro ⟨v, r, C', τ', H', rfl, rfl, hr, hst, hstep⟩
  refine ⟨?_, hst.fr.os, hst.fr.tape, hst.fr.output, hst.fr.size, fun k hk => hst.fr.prot k ⟨hk, ?_⟩⟩
  · cases hr with
    | rd hr => cases hr; rfl
  · rintro ⟨id, l, h1, _⟩
    exact absurd h1 (Nat.not_lt_zero _)

set_option maxRecDepth 100000 in

theorem lifted_of_law {C : Checked} {os : Os} {f : FuncId} {fn : Func} {s : ChangeSpec} {ob : List Nat} {af : AFunc} {n tb : Nat} {shs : List (Bool × List Sh)}
    (own : ownKnob C.prog.godebug = none) (started : os.Started) (noInit : C.prog.inits.idxOf? f = none) (hfn : C.prog.funcs[f]? = some fn)
    (witness : ∃ (w : World) (tape : Tape) (i : Input), w.os = os ∧ (w.forCall tape i).Shaped C.prog ∧ i.vars = [] ∧ Input.okWide C.prog (w.forCall tape i) .any w.heap.size f i ∧
      s.pre6 enc C.prog fn [] false (w.forCall tape i).memory i.args ∧ ({} : Assume).holds C.prog (lone (Frame.enter C.prog f i.args .normal) [] (w.forCall tape i)))
    (laid : laidOutB C.prog = true) (hread : (fn.params.toList.all fun t => C.prog.readableRec t && decide (t < C.prog.types.size)) = true)
    (hs : ∀ (ds : List (DataW H)), ds.length = fn.params.size → s.fn H ds = { results := [.lit (.bool true)], args := ds }) (hvars : s.vars = [])
    (hres : fn.resultTypes = #[tb]) (htb : C.prog.underlying tb = some .bool) (hsh : paramShs C.prog n fn.params.toList = some shs) (hhas : Has C.prog f ob af)
    (hlaw : ∀ asv, ArgsOk shs asv → ACalls C.prog f asv [] (fun r _ => r = .bool true)) :
    ReturnsInHanded {} C os f .any (s.pre6 enc C.prog fn [] false) (s.post enc C.prog fn false true false false) := by
  refine returnsInHanded_of_change (C := C) own started noInit hfn witness ?_
  intro W base args ds gs before hval hW _ _
  have hW' := hW
  obtain ⟨p, q, hA, hV, rfl, _, _⟩ := hW
  rw [hvars] at hV
  obtain ⟨rfl, rfl⟩ := trodVars_none hV
  obtain ⟨asv, has, hlen, hrel⟩ := open_args (τ := fun _ => none) (n := n) fn.params.toList args.toList ds p shs hsh (fun j t v h1 h2 => hval j t v (by simpa using h1) (by simpa using h2)) hA
  obtain ⟨fn', c, hfn', hname, hbody, _⟩ := hhas
  have e : fn' = fn := Option.some.inj (hfn'.symm.trans hfn)
  subst e
  have hlds : ds.length = fn'.params.size := by
    have : ∀ (ts : List TypeId) (vs : List Value) (ds : List (DataW H)) (ps : List MemPlace), DataW.TrodAll enc C.prog W 0 (fun _ => true) true ts vs ds ps → ds.length = ts.length := by
      intro ts
      induction ts with
      | nil => intro vs ds ps h; obtain ⟨_, rfl, _⟩ := trodAll_nil h; rfl
      | cons t ts ih =>
        intro vs ds ps h
        obtain ⟨_, _, _, _, _, _, _, rfl, _, _, h2⟩ := trodAll_cons h
        simp [ih _ _ _ h2]
    simpa using this _ _ _ _ hA
  refine (calls_of_law hfn hname hbody (by simpa using hlen) (fun i a v h1 h2 => hrel i a v h1 (by simpa using h2)) (hlaw asv has)).mono fun e W' ⟨he, bel⟩ => ?_
  subst he
  refine ⟨_, rfl, ds, [], _, [], p, [], hW', ?_, ?_, ?_, bel.frame _, fun h => by cases h⟩
  · rw [List.append_nil, hs ds hlds, hres]
    exact trodAll_mk1 (shut_bool htb _)
  · rw [List.append_nil, hs ds hlds]
    refine trodAll_below laid bel _ _ _ _ (fun t ht => ?_) hA
    have := List.all_eq_true.1 hread t ht
    simpa using this
  · rw [List.append_nil, hs ds hlds, hvars]
    rfl

end
theorem argsOk_cons {p : Bool × List Sh} {ps : List (Bool × List Sh)} {asv : List AVal} (h : ArgsOk (p :: ps) asv) : ∃ a as', asv = a :: as' ∧ ArgOk p a ∧ ArgsOk ps as' := by
  cases asv with
  | nil => exact h.elim
  | cons a asv => exact ⟨a, asv, rfl, h.1, h.2⟩

theorem argsOk_nil {asv : List AVal} (h : ArgsOk [] asv) : asv = [] := by
  cases asv with
  | nil => rfl
  | cons a asv => exact h.elim

theorem argOk_int {k : IntKind} {a : AVal} (h : ArgOk (false, [.int k]) a) : ∃ n, a = .int k n ∧ (Lit.int k n).wf = true := by
  obtain ⟨s, h1, h2⟩ := h
  cases h1
  cases h2 with
  | int _ n h => exact ⟨n, rfl, h⟩

def CellsOk : List Sh → List AVal → Prop
  | [], [] => True
  | s :: ss, a :: asv => ShOk s a ∧ CellsOk ss asv
  | _, _ => False

theorem cellsOk_of : ∀ (l : List Sh) (asv : List AVal), asv.length = l.length → (∀ (i : Nat) (s : Sh) (c : AVal), l[i]? = some s → asv[i]? = some c → ShOk s c) → CellsOk l asv
  | [], [], _, _ => trivial
  | s :: l, a :: asv, hl, h => ⟨h 0 s a rfl rfl, cellsOk_of l asv (by simpa using hl) fun i s c h1 h2 => h (i + 1) s c (by simpa using h1) (by simpa using h2)⟩
  | [], _ :: _, hl, _ => by simp at hl
  | _ :: _, [], hl, _ => by simp at hl

theorem shOk_slice {fs : List Sh} {a : AVal} (h : ShOk (.slice fs) a) : ∃ es, a = .list false fs.length es ∧ es.length ≤ maxLen ∧ ∀ e ∈ es, CellsOk fs e := by
  cases h with
  | list _ es hb hl h => exact ⟨es, rfl, hb, fun e he => cellsOk_of _ _ (hl e he) fun i s c h1 h2 => h e i s c he h1 h2⟩

theorem argOk_slice {fs : List Sh} {a : AVal} (h : ArgOk (false, [.slice fs]) a) : ∃ es, a = .list false fs.length es ∧ es.length ≤ maxLen ∧ ∀ e ∈ es, CellsOk fs e := by
  obtain ⟨s, h1, h2⟩ := h
  cases h1
  exact shOk_slice h2

theorem list_image {α β : Type} {g : α → β} {W : α → Prop} : ∀ (l : List β), (∀ x ∈ l, ∃ a, x = g a ∧ W a) → ∃ m : List α, l = m.map g ∧ ∀ a ∈ m, W a
  | [], _ => ⟨[], rfl, by simp⟩
  | x :: l, h => by
    obtain ⟨a, rfl, ha⟩ := h x (by simp)
    obtain ⟨m, rfl, hm⟩ := list_image l fun y hy => h y (by simp [hy])
    exact ⟨a :: m, rfl, fun b hb => by rcases List.mem_cons.1 hb with rfl | hb; exact ha; exact hm b hb⟩

theorem cellsOk_int {k : IntKind} {e : List AVal} (h : CellsOk [.int k] e) : ∃ n, e = [.int k n] ∧ (Lit.int k n).wf = true := by
  match e, h with
  | [a], h =>
    obtain ⟨h1, _⟩ := h
    cases h1
    rename_i n hn
    exact ⟨n, rfl, hn⟩

theorem argOk_ints {k : IntKind} {a : AVal} (h : ArgOk (false, [.slice [.int k]]) a) : ∃ l : List Int, a = .list false 1 (l.map fun n => [.int k n]) ∧ l.length ≤ maxLen ∧ ∀ n ∈ l, (Lit.int k n).wf = true := by
  obtain ⟨es, rfl, hl, h⟩ := argOk_slice h
  obtain ⟨m, rfl, hm⟩ := list_image (g := fun n => [AVal.int k n]) (W := fun n => (Lit.int k n).wf = true) es fun e he => cellsOk_int (h e he)
  exact ⟨m, rfl, by simpa using hl, hm⟩

end Go.AW

namespace Go.AW
variable [Draws]
attribute [local irreducible] ACalls
structure V where
  kind : Int
  num : Int
  str : ByteArray

def valC (v : V) : List AVal := [.int .i64 v.kind, .int .i64 v.num, .str v.str]

def validB (v : V) : Bool :=
  if v.kind = 0 then v.num == 0 && v.str.data.toList == []
  else if v.kind = 1 then (v.num == 0 || v.num == 1) && v.str.data.toList == []
  else if v.kind = 2 then decide (-1073741824 ≤ v.num) && decide (v.num ≤ 1073741824) && v.str.data.toList == []
  else if v.kind = 3 then v.num == 0 && decide (v.str.size ≤ 64)
  else if v.kind = 4 then decide (0 ≤ v.num) && decide (v.num ≤ 575999999) && v.str.data.toList == []
  else false

set_option maxRecDepth 20000 in
theorem value_Valid_spec {P : Program} (F : F_value_Valid P) (v : V) (H : List AObj) :
    ACalls P F.id [.agg (valC v)] H (fun r H' => r = .bool (validB v) ∧ H' = H) := by
  refine ACalls.pure rfl (acalls_of_body F.has ?_)
  repeat' ((conv => whnf); refine recA (fun _ => ?_) (fun _ => ?_))
  all_goals (conv => whnf)
  all_goals refine pubB ?_
  all_goals (simp_all [validB, bs_nil]; try omega)

set_option maxRecDepth 20000 in
theorem ref1_Valid_spec {P : Program} (F : F_warehouseref1_Valid P) (v : V) (H : List AObj) :
    ACalls P F.id [.agg (valC v)] H (fun r H' => r = .bool (validB v) ∧ H' = H) := by
  refine ACalls.pure rfl (acalls_of_body F.has ?_)
  repeat' ((conv => whnf); refine recA (fun _ => ?_) (fun _ => ?_))
  all_goals (conv => whnf)
  all_goals refine pubB ?_
  all_goals (simp_all [validB, bs_nil]; try omega)

def cmpI (a b : Int) : Int := if a < b then -1 else if b < a then 1 else 0

def cmpS (a b : List UInt8) : Int := if Op.bytesLess a b then -1 else if a = b then 0 else 1

theorem isNaN_int_spec {P : Program} (F : F_cmp_isNaN_int P) (a : Int) (H : List AObj) :
    ACalls P F.id [.int .i64 a] H (fun r H' => r = .bool false ∧ H' = H) := by
  refine ACalls.pure rfl (acalls_of_body F.has ?_)
  conv => whnf
  exact pubB (by simp)

theorem isNaN_string_spec {P : Program} (F : F_cmp_isNaN_string P) (a : ByteArray) (H : List AObj) :
    ACalls P F.id [.str a] H (fun r H' => r = .bool false ∧ H' = H) := by
  refine ACalls.pure rfl (acalls_of_body F.has ?_)
  conv => whnf
  exact pubB (by simp)

theorem cmpCompare_int_spec {P : Program} (F : F_cmp_Compare_int P) (a b : Int) (H : List AObj) :
    ACalls P F.id [.int .i64 a, .int .i64 b] H (fun r H' => r = .int .i64 (cmpI a b) ∧ H' = H) := by
  refine ACalls.pure rfl (acalls_of_body F.has ?_)
  conv => whnf
  refine (isNaN_int_spec F.cmp_isNaN_int _ _).use ?_
  conv => whnf
  refine (isNaN_int_spec F.cmp_isNaN_int _ _).use ?_
  repeat' ((conv => whnf); refine recA (fun _ => ?_) (fun _ => ?_))
  all_goals (conv => whnf)
  all_goals refine pubI ?_
  all_goals (simp_all [cmpI]; try omega)

theorem cmpCompare_string_spec {P : Program} (F : F_cmp_Compare_string P) (a b : ByteArray) (H : List AObj) :
    ACalls P F.id [.str a, .str b] H (fun r H' => r = .int .i64 (cmpS a.data.toList b.data.toList) ∧ H' = H) := by
  refine ACalls.pure rfl (acalls_of_body F.has ?_)
  conv => whnf
  refine (isNaN_string_spec F.cmp_isNaN_string _ _).use ?_
  conv => whnf
  refine (isNaN_string_spec F.cmp_isNaN_string _ _).use ?_
  repeat' ((conv => whnf); refine recA (fun _ => ?_) (fun _ => ?_))
  all_goals (conv => whnf)
  all_goals refine pubI ?_
  all_goals (simp_all [cmpS])

def orI : List Int → Int
  | [] => 0
  | x :: xs => if x = 0 then orI xs else x

def valCmp (a b : V) : Int := orI [cmpI a.kind b.kind, cmpI a.num b.num, cmpS a.str.data.toList b.str.data.toList]

theorem orI_drop (l : List Int) (k : Nat) (h : ∀ j, j < k → l.getD j 0 = 0) : orI l = orI (l.drop k) := by
  induction k generalizing l with
  | zero => rfl
  | succ k ih =>
    cases l with
    | nil => rfl
    | cons x xs =>
      have h0 := h 0 (by omega)
      simp at h0
      subst h0
      simp only [orI, if_true, List.drop_succ_cons]
      exact ih xs fun j hj => by have := h (j + 1) (by omega); simpa using this

theorem getElem?_getD {l : List Int} {k : Nat} (h : k < l.length) : l[k]? = some (l.getD k 0) := by
  rw [List.getD_eq_getElem?_getD, List.getElem?_eq_getElem h]; rfl

theorem orI_at (l : List Int) (k : Nat) (h : ∀ j, j < k → l.getD j 0 = 0) (hk : k < l.length) (hne : l.getD k 0 ≠ 0) : orI l = l.getD k 0 := by
  rw [orI_drop l k h, List.drop_eq_getElem_cons hk]
  rw [List.getD_eq_getElem?_getD, List.getElem?_eq_getElem hk] at hne ⊢
  simp only [Option.getD_some] at hne ⊢
  simp [orI, hne]

theorem orI_all (l : List Int) (h : ∀ j, j < l.length → l.getD j 0 = 0) : orI l = 0 := by
  rw [orI_drop l l.length h, List.drop_length]; rfl

set_option maxRecDepth 20000 in
theorem cmpOr_spec {P : Program} (F : F_cmp_Or_int P) (l : List Int) (hl : l.length ≤ 1000000) (H : List AObj) :
    ACalls P F.id [.list true 1 (l.map fun x => [.int .i64 x])] H (fun r H' => r = .int .i64 (orI l) ∧ H' = H) := by
  refine ACalls.pure rfl (acalls_of_body F.has ?_)
  conv => whnf
  refine ⟨fun n ρ H => ∃ k : Nat, k + n = l.length ∧ (∀ j, j < k → l.getD j 0 = 0) ∧ H = [] ∧
    Sv 18 [(0, .list true 1 (l.map fun x => [.int .i64 x])), (2, .int .i64 0), (3, .int .i64 0), (6, .list true 1 (l.map fun x => [.int .i64 x])), (7, .int .i64 (l.map fun x => [AVal.int .i64 x]).length), (8, .int .i64 k)] ρ, l.length, [], ⟨0, by simp, by simp, rfl, Sv.intro rfl ⟨rfl, rfl, rfl, rfl, rfl, rfl, trivial⟩⟩, ?_⟩
  rintro n ρ H ⟨k, hk, hz, rfl, d, rfl⟩
  conv => whnf
  refine recA (fun hlt => ?_) (fun hlt => ?_)
  · simp at hlt
    conv => whnf
    refine ⟨by omega, ?_⟩
    conv => whnf
    refine recO (e := [AVal.int .i64 (l.getD k 0)]) ?_ ?_
    · rw [List.getElem?_map, getElem?_getD (by omega)]; rfl
    (conv => whnf); refine recA (fun hne => ?_) (fun hne => ?_)
    · conv => whnf
      refine pubI ?_
      rw [orI_at l k hz (by omega) (by simpa using hne)]
    · conv => whnf
      have e := wrapI ((k : Int) + 1) (by omega) (by omega)
      refine ⟨n - 1, by omega, Gp.keep rfl ?_ fun ρ1 h => ⟨k + 1, by omega, fun j hj => ?_, rfl, h⟩⟩
      · exact ⟨rfl, rfl, rfl, rfl, rfl, intEq e, trivial⟩
      rcases Nat.lt_succ_iff_lt_or_eq.1 hj with h | rfl
      · exact hz j h
      · simpa using hne
  · conv => whnf
    refine pubI ?_
    simp at hlt
    rw [orI_all l fun j hj => hz j (by omega)]

theorem numbers_spec {P : Program} (F : F_warehouseref1_numbers P) (a b : Int) (H : List AObj) :
    ACalls P F.id [.int .i64 a, .int .i64 b] H (fun r H' => r = .int .i64 (cmpI a b) ∧ H' = H) := by
  refine ACalls.pure rfl (acalls_of_body F.has ?_)
  repeat' ((conv => whnf); refine recA (fun _ => ?_) (fun _ => ?_))
  all_goals (conv => whnf)
  all_goals refine pubI ?_
  all_goals (simp_all [cmpI]; try omega)

set_option maxRecDepth 20000 in
theorem value_Compare_spec {P : Program} (F : F_value_Compare P) (a b : V) (H : List AObj) :
    ACalls P F.id [.agg (valC a), .agg (valC b)] H (fun r H' => r = .int .i64 (valCmp a b) ∧ H' = H) := by
  refine ACalls.pure rfl (acalls_of_body F.has ?_)
  conv => whnf
  refine ⟨_, cmpCompare_int_spec F.cmp_Compare_int a.kind b.kind _, ?_⟩
  conv => whnf
  refine ⟨_, cmpCompare_int_spec F.cmp_Compare_int a.num b.num _, ?_⟩
  conv => whnf
  refine ⟨_, cmpCompare_string_spec F.cmp_Compare_string a.str b.str _, ?_⟩
  conv => whnf
  refine ⟨_, cmpOr_spec F.cmp_Or_int [_, _, _] (by simp) _, ?_⟩
  conv => whnf
  exact pubI rfl

set_option maxRecDepth 20000 in
theorem ref1_Compare_spec {P : Program} (F : F_warehouseref1_Compare P) (a b : V) (H : List AObj) :
    ACalls P F.id [.agg (valC a), .agg (valC b)] H (fun r H' => r = .int .i64 (valCmp a b) ∧ H' = H) := by
  refine ACalls.pure rfl (acalls_of_body F.has ?_)
  repeat' ((conv => whnf); first | refine recA (fun _ => ?_) (fun _ => ?_) | refine ACalls.use (numbers_spec F.warehouseref1_numbers _ _ _) ?_)
  all_goals (conv => whnf)
  all_goals refine pubI ?_
  all_goals simp_all [valCmp, orI, cmpS]

end Go.AW

namespace Go.AW
variable [Draws]
attribute [local irreducible] ACalls
def bC (l : List Int) : List (List AVal) := l.map fun n => [.int .u8 n]

def u8 (n : Int) : Int := IntKind.u8.wrap n

def w4 (n : Int) : List Int := [u8 (n.fdiv (2 ^ 24)), u8 (n.fdiv (2 ^ 16)), u8 (n.fdiv (2 ^ 8)), u8 n]

theorem bC_append (a b : List Int) : bC (a ++ b) = bC a ++ bC b := List.map_append

theorem bC_length (l : List Int) : (bC l).length = l.length := List.length_map ..

theorem roomB_le {n : Nat} (h : n ≤ 1000000000) : n ≤ roomB := Nat.le_trans h (by show _ ≤ 1099511627776; omega)

theorem roomB_le1 {n : Nat} (h : n ≤ 1000000000) : n * 1 ≤ roomB := roomB_le (by omega)

theorem ACalls.retH {P : Program} {f : FuncId} {args : List AVal} {H H1 : List AObj} {R : AVal} {Q : AVal → List AObj → Prop} (h : ACalls P f args H (fun r H' => r = R ∧ H' = H1)) (hq : Q R H1) : ACalls P f args H Q :=
  h.mono fun r H' ⟨h1, h2⟩ => by subst h1 h2; exact hq

set_option maxRecDepth 20000 in
theorem word_spec {P : Program} (F : F_value_word P) (H : List AObj) (id : Nat) (es : List (List AVal)) (n : Int) (ho : H[id]? = some (.arr 1 es)) (hl : es.length ≤ 1000000) :
    ACalls P F.id [.sl id es.length 0 es.length, .int .i64 n] H (fun r H' => r = .sl id (es ++ bC (w4 n)).length 0 (es ++ bC (w4 n)).length ∧ H' = H.set id (.arr 1 (es ++ bC (w4 n)))) := by
  refine acalls_of_body F.has ?_
  repeat' ((conv => whnf); first | refine And.intro (by decide) ?_ | refine recO ho ?_ | refine recT (Nat.beq_refl _) ?_)
  conv => whnf
  refine And.intro ⟨?_, ?_, rfl, rfl⟩ ?_
  · exact roomB_le1 (by simp; omega)
  · exact roomB_le (by simp; omega)
  rw [setO_eq]
  conv => whnf
  exact ⟨rfl, rfl⟩

def bytesI (s : ByteArray) : List Int := s.data.toList.map fun b => (b.toNat : Int)

def encV (v : V) : List Int :=
  u8 v.kind :: (if v.kind = 1 then [u8 v.num] else if v.kind = 2 then w4 (IntKind.i64.wrap (v.num + 1073741824)) else if v.kind = 4 then w4 v.num else if v.kind = 3 then u8 v.str.size :: bytesI v.str else [])

def encK (rs : List V) (k : Nat) : List Int := u8 rs.length :: (rs.take k).flatMap encV

def encB (rs : List V) : List Int := u8 rs.length :: rs.flatMap encV

def encR (rs : List V) : AVal :=
  if 12 < rs.length then .tuple [.nil, .int .i64 2] else if rs.all validB then .tuple [.list false 1 (bC (encB rs)), .int .i64 0] else .tuple [.nil, .int .i64 8]

theorem encV_len (v : V) (h : validB v = true) : (encV v).length ≤ 66 := by
  unfold encV validB at *
  split <;> (try split) <;> (try split) <;> (try split) <;> simp_all [w4, bytesI]

theorem valid_str (v : V) (h : validB v = true) : (byteCells v.str.data.toList).length ≤ 64 := by
  simp only [byteCells, List.length_map]
  unfold validB at h
  split at h <;> (try split at h) <;> (try split at h) <;> (try split at h) <;> (try split at h) <;> simp_all

theorem encK_len (rs : List V) (k : Nat) (h : (rs.take k).all validB = true) : (encK rs k).length ≤ 1 + 66 * k := by
  simp only [encK, List.length_cons]
  have : ∀ l : List V, l.all validB = true → (l.flatMap encV).length ≤ 66 * l.length := by
    intro l hl
    induction l with
    | nil => simp
    | cons v l ih =>
      simp only [List.all_cons, Bool.and_eq_true] at hl
      have := encV_len v hl.1
      have := ih hl.2
      simp only [List.flatMap_cons, List.length_append, List.length_cons]; omega
  have := this _ h
  have h2 : (rs.take k).length ≤ k := List.length_take_le ..
  have h3 : 66 * (rs.take k).length ≤ 66 * k := Nat.mul_le_mul_left _ h2
  omega

theorem pureEs_bC (l : List Int) : pureEs (bC l) = true := by simp [pureEs, bC, AVal.isPure]

theorem pub_int {H1 : List AObj} {n : Nat} {ids : List Nat} {k : IntKind} {a b : Int} (h : a = b) : Pub H1 n ids (.int k a) (.int k b) := by subst h; exact .closed _ rfl

theorem pub2 {H1 : List AObj} {n : Nat} {ids : List Nat} {a b r s : AVal} (h1 : Pub H1 n ids a r) (h2 : Pub H1 n ids b s) : Pub H1 n ids (.tuple [a, b]) (.tuple [r, s]) := by
  refine .tuple _ _ rfl fun i v t h3 h4 => ?_
  rcases i with _ | _ | i
  · cases h3; cases h4; exact h1
  · cases h3; cases h4; exact h2
  · simp at h3

theorem ObP.of_eq {H : List AObj} {ids : List Nat} {esz : Nat} {es es1 : List (List AVal)} (he : es = es1) (h : pureEs es1 = true) : ObP H ids (.arr esz es) (.arr esz es1) := by subst he; exact .same _ _ h

theorem pubF {H1 : List AObj} {n : Nat} {id ep len sz : Nat} {es : List (List AVal)} (ho : H1[id]? = some (.arr sz es)) (he : ep = es.length) (hl : len = es.length) (hp : pureEs es = true) : Pub H1 n [] (.sl id ep 0 len) (.list false sz es) := by
  subst hl he
  have := Pub.frz (n := n) (ids := []) id es.length 0 es.length sz es ho rfl hp (by simp)
  rwa [List.drop_zero, List.take_length] at this

def encS (ex : Bool) (rs : List V) (k : Nat) : List (Nat × AVal) := [(4, .sl 0 (bC (encK rs k)).length 0 (bC (encK rs k)).length), (14, .list ex 3 (rs.map valC)), (15, .int .i64 (rs.map valC).length), (16, .int .i64 k)]

set_option maxRecDepth 20000 in
theorem encode_list {P : Program} (F : F_value_Encode P) (ex : Bool) (rs : List V) (H : List AObj) :
    ACalls P F.id [.list ex 3 (rs.map valC)] H (fun r H' => r = encR rs ∧ H' = H) := by
  refine ACalls.pure rfl (acalls_of_body F.has ?_)
  (conv => whnf); refine recA (fun hlt => ?_) (fun hlt => ?_)
  · conv => whnf
    simp at hlt
    rw [show encR rs = .tuple [.nil, .int .i64 2] from if_pos (by omega)]
    exact pub2 (.closed _ rfl) (.closed _ rfl)
  conv => whnf
  simp at hlt
  refine ⟨fun n ρ H => ∃ k : Nat, k + n = rs.length ∧ (rs.take k).all validB = true ∧ H = [.arr 1 (bC (encK rs k))] ∧
    Sv 67 (encS ex rs k) ρ, rs.length, [], ⟨0, by simp, by simp, ?_, ?_⟩, ?_⟩
  · simp [encK, bC, u8]
  · exact Sv.intro rfl ⟨rfl, rfl, rfl, rfl, trivial⟩
  rintro n ρ H ⟨k, hk, hz, rfl, d, rfl⟩
  conv => whnf
  refine recA (fun hlt2 => ?_) (fun hlt2 => ?_)
  · simp at hlt2
    conv => whnf
    refine ⟨by omega, ?_⟩
    conv => whnf
    refine recO (e := valC rs[k]) ?_ ?_
    · rw [List.getElem?_map, List.getElem?_eq_getElem (by omega)]; rfl
    conv => whnf
    have hb : (bC (encK rs k)).length ≤ 1000 := by rw [bC_length]; exact Nat.le_trans (encK_len rs k hz) (by omega)
    have hsnoc : rs.take (k + 1) = rs.take k ++ [rs[k]] := by rw [List.take_add_one, List.getElem?_eq_getElem (by omega)]; rfl
    have hmem : rs[k] ∈ rs := List.getElem_mem _
    generalize rs[k] = v at hsnoc hmem ⊢
    refine (value_Valid_spec F.value_Valid v _).use ?_
    (conv => whnf); refine recA (fun hv => ?_) (fun hv => ?_)
    · conv => whnf
      have hall : rs.all validB = false := by
        apply Bool.eq_false_iff.2
        intro hall
        rw [List.all_eq_true.1 hall v hmem] at hv
        cases hv
      rw [show encR rs = .tuple [.nil, .int .i64 8] by unfold encR; rw [if_neg (by omega), hall]; rfl]
      exact pub2 (.closed _ rfl) (.closed _ rfl)
    have hz2 : (rs.take (k + 1)).all validB = true := by rw [hsnoc]; simp at hv; simp [hz, hv]
    have hsz : (byteCells v.str.data.toList).length ≤ 64 := valid_str v (by simpa using hv)
    have hkey : bC (encK rs (k + 1)) = bC (encK rs k) ++ bC (encV v) := by rw [← bC_append]; congr 1; simp [encK, hsnoc]
    have e1 := wrapI ((k : Int) + 1) (by omega) (by omega)
    repeat' ((conv => whnf); first
      | refine recT (Nat.beq_refl _) ?_
      | refine And.intro ⟨roomB_le1 (by simp; omega), roomB_le (by simp; omega), rfl, rfl⟩ ?_
      | refine recA (fun _ => ?_) (fun _ => ?_)
      | refine ACalls.retH (word_spec F.value_word _ _ _ _ (by rfl) (by simp; omega)) ?_)
    all_goals (conv => whnf)
    all_goals refine ⟨n - 1, by omega, Gp.one 0 1 (bC (encK rs (k + 1))) ?_ (pureEs_bC _) rfl ?_ fun ρ1 h => ⟨k + 1, by omega, hz2, rfl, h⟩⟩
    all_goals try (refine ⟨pubSl (k := 0) rfl rfl ?_ ?_, .closed _ rfl, .closed _ rfl, pub_int e1, trivial⟩)
    all_goals (rw [hkey]; simp_all [encV, bC, u8, w4, bytesI, byteCells])
  · conv => whnf
    simp at hlt2
    have e : rs.take k = rs := List.take_of_length_le hlt2
    rw [e] at hz
    have e2 : encK rs k = encB rs := by simp [encK, encB, e]
    rw [show encR rs = .tuple [.list false 1 (bC (encB rs)), .int .i64 0] by unfold encR; rw [if_neg (by omega), hz]; rfl, e2]
    have := Pub.frz (H1 := [.arr 1 (bC (encB rs))]) (n := 0) (ids := []) 0 (bC (encB rs)).length 0 (bC (encB rs)).length 1 (bC (encB rs)) rfl rfl (pureEs_bC _) (by simp)
    rw [List.drop_zero, List.take_length] at this
    exact pub2 this (.closed _ rfl)

end Go.AW

